import Derived.Test.YtbhhphabggcacaaGreatDoorSGood11
import Derived.Test.YtbhhphabggcacaaGreatDoorSLexR
import Derived.Test.YtbhhphabggcacaaGreatDoorSPrtL
import Derived.Test.YtbhhphabggcacaaGreatDoorSTreeX
namespace Go.Proofs.YtbhhphabggcacaaGreatDoor
open Sy Go
set_option maxRecDepth 100000
set_option maxHeartbeats 1000000
set_option linter.unusedSimpArgs false
set_option linter.unusedVariables false
def er (t:Tok):Tok:={ t with pos:=0 }
theorem zIK:qBW er:=fun t=>⟨rfl,rfl,rfl⟩
def zV (r:List UInt8) (l:List Tok) (q:List UInt8):Prop :=
 ∀ n a,r.length<n→∃ n' a',q.length<n'∧(wS n a r).map (List.map er)=(wS n' a' q).map fun x=>l++x.map er
theorem zV.refl (r:List UInt8):zV r [] r:=fun n a h=>⟨n,a,h,by simp⟩
theorem zV.trans {r q p:List UInt8} {l m:List Tok} (h:zV r l q) (g:zV q m p):zV r (l++m) p:=fun n a hn=>by
 obtain ⟨n',a',h1,h2⟩:=h n a hn
 obtain ⟨n2,a2,g1,g2⟩:=g n' a' h1
 refine ⟨n2,a2,g1, ?_⟩
 rw [h2]
 have e:(wS n' a' q).map (fun x=>l++x.map er)=((wS n' a' q).map (List.map er)).map (l ++ ·):=by rw [Option.map_map]; rfl
 rw [e,g2,Option.map_map]
 congr 1
 funext x
 simp
theorem zV.blank (r:List UInt8):zV (32::r) [] r:=fun n a hn=>by
 refine ⟨n,a+1,by simp at hn; omega, ?_⟩
 rw [show (32::r:List UInt8)=[32]++r from rfl,qEK [32] (by decide)]
 simp
theorem zV.one {b:UInt8} {w r:List UInt8} {t:Tok} (hb:yR b=false) (h:kI (b::w++r)=(t,(b::w).length)) (hp:t.pos=0):zV (b::w++r) [t] r:=fun n a hn=>by
 obtain ⟨n,rfl⟩:∃ k,n=k+1:=⟨n-1,by omega⟩
 refine ⟨n,a+(b::w).length,by simp at hn; omega, ?_⟩
 have hs:spn yR (b::w++r)=0:=by simp [spn,List.takeWhile_cons,hb]
 simp only [wS]
 rw [hs]
 simp only [List.drop_zero]
 rw [if_neg (by simp),h]
 simp only
 rw [if_neg (by simp),List.drop_left,Option.map_map,Nat.add_zero]
 congr 1
 funext x
 simp only [Function.comp,List.map_cons,List.singleton_append,er]
 rw [← hp]
def sg (w:List UInt8):Tok:=⟨6,0,w,d0⟩
def wd (w:List UInt8):Tok:=⟨1,0,w,d0⟩
def vr (w:List UInt8):Tok:=⟨2,0,w,d0⟩
def ky (w:List UInt8):Tok:=⟨3,0,w,d0⟩
def nm (d:Dc):Tok:=⟨4,0,[],d⟩
def tx (w:List UInt8):Tok:=⟨5,0,w,d0⟩
theorem zHZ {b:UInt8} (h:b∈[40,41,91,93,123,125,44,58,59,124]) (r:List UInt8):zV (b::r) [sg [b]] r :=
 zV.one (w:=[]) (by revert b; decide) (qIB h r) rfl
theorem qUN {b:UInt8} (hb:qF b=true) (r:List UInt8):zV (45::b::r) [sg [45]] (b::r):=by
 refine zV.one (w:=[]) (by decide) ?_ rfl
 have hl:wM ([45]++b::r)=(0,0):=by
  unfold wM
  rw [if_neg (by simp),if_neg (by simp)]
 have hp:qY ([45]++b::r) [34]=false:=by simp [qY]
 have hs1:spn kD ([45]++b::r)=0:=by simp [spn,List.takeWhile_cons,kD]
 have hs2:spn qF ([45]++b::r)=0:=by
  have:qF 45=false:=by decide
  simp [spn,List.takeWhile_cons,this]
 have hs3:vJ ([45]++b::r)=[45]:=by
  have ht:xA.find? (fun w=>qY ([45]++b::r) w)=none:=by
   rw [List.find?_eq_none]
   intro w hw
   simp only [xA,List.mem_cons,List.not_mem_nil,or_false] at hw
   rcases hw with rfl | rfl | rfl | rfl <;> simp [qY]
  have hm:min 1 (spn qFX ([45]++b::r))=1:=by
   have h5:qFX 45=true:=by decide
   unfold spn
   rw [List.cons_append,List.takeWhile_cons,if_pos h5,List.length_cons]; omega
  unfold vJ
  rw [ht,hm]; rfl
 unfold kI
 simp only [hl,List.drop_zero,hp,hs1,hs2,hs3]
 rfl
theorem qMG {b c:UInt8} {w:List UInt8} {t:Tok} (hb:yR b=false) (h:kI (b::w)=(t,(b::w).length)) (hp:t.pos=0) (hc:c∈xU) (r:List UInt8):zV (b::w++c::r) [t] (c::r) :=
 zV.one hb (by rw [qPH hc (by simp) (by rw [h]; simp),h]) hp
theorem zKR {c:UInt8} (hc:c∈xU) (r:List UInt8):zV (46::c::r) [sg [46]] (c::r):=qMG (w:=[]) (by decide) (by decide +kernel) rfl hc r
theorem zEN {b:UInt8} (h:kD b=true):yR b=false∧b≠36∧b≠46∧b≠34:=by
 unfold kD at h
 simp only [Bool.and_eq_true,decide_eq_true_eq] at h
 refine ⟨?_, ?_, ?_, ?_⟩
 ·unfold yR
  have h1:∀ k:UInt8,k.toNat<97→b≠k:=fun k hk e=>by subst e; omega
  simp [h1 32 (by decide),h1 9 (by decide),h1 10 (by decide),h1 13 (by decide)]
 all_goals (rintro rfl; simp at h)
theorem qCC {s:List UInt8} (h:wJ s=true):∃ b w,s=b::w∧kD b=true∧s.all qIJ=true:=by
 unfold wJ at h
 simp only [Bool.and_eq_true] at h
 obtain ⟨h1,h2,h3⟩:=h
 cases s with
 | nil=>cases h3
 | cons b w =>
  refine ⟨b,w,rfl,by rw [← qYZ]; exact h3, ?_⟩
  rw [List.all_eq_true] at h1 ⊢
  intro c hc
  have:=zCO ⟨c.toNat,c.toNat_lt⟩
  simp only [UInt8.ofNat_toNat] at this
  rw [← this]; exact h1 c hc
theorem qOM {s:List UInt8} (h:wJ s=true):xS s=(s,true):=by
 obtain ⟨b,w,rfl,h1,h2⟩:=qCC h
 have h3:spn kD (b::w)≠0:=by simp [spn,List.takeWhile_cons,h1]
 have h4:spn qIJ (b::w)=(b::w).length:=qDD h2
 unfold xS
 rw [if_neg h3,h4,List.take_length,h]
theorem zEB {s:List UInt8} (h:wJ s=true):kI s=(wd s,s.length):=by
 obtain ⟨b,w,rfl,h1,h2⟩:=qCC h
 obtain ⟨g1,g2,g3,g4⟩:=zEN h1
 have hl:wM (b::w)=(0,0):=by
  unfold wM
  rw [if_neg (by simpa using g2),if_neg (by simp [g3])]
 have hp:qY (b::w) [34]=false:=by simp [qY,g4]
 have hs:0<spn kD (b::w):=by simp [spn,List.takeWhile_cons,h1]
 unfold kI
 simp only [hl,List.drop_zero,hp]
 rw [if_neg (by simp),if_pos (.inr hs),qOM h]
 simp [uC,wd]
theorem zHO {s:List UInt8} (h:wJ s=true):kI (36::s)=(vr s,s.length+1):=by
 have hl:wM (36::s)=(2,1):=by unfold wM; rw [if_pos (by simp)]
 unfold kI
 simp only [hl,List.drop_succ_cons,List.drop_zero]
 rw [if_neg (fun h=>h.2 rfl),if_pos (.inl (by decide)),qOM h]
 simp [uC,vr]; omega
theorem qEJ {s:List UInt8} {c:UInt8} (h:wJ s=true) (hc:c∈xU) (r:List UInt8):zV (s++c::r) [wd s] (c::r):=by
 have h1:=zEB h
 obtain ⟨b,w,rfl,h2,h3⟩:=qCC h
 exact qMG (zEN h2).1 h1 rfl hc r
theorem qWU {s:List UInt8} {c:UInt8} (h:wJ s=true) (hc:c∈xU) (r:List UInt8):zV (36::s++c::r) [vr s] (c::r) :=
 qMG (by decide) (zHO h) rfl hc r
theorem zHP {s:List UInt8} (h:jJ s) (r:List UInt8):kI (zL s++r)=(tx s,(zL s).length):=by
 have hu:=qGD s r h.1 h.2
 have hl:wM (zL s++r)=(0,0):=by
  unfold wM zL
  rw [if_neg (by simp),if_neg (by simp)]
 have hp:qY (zL s++r) [34]=true:=by simp [qY,zL]
 unfold kI
 simp only [hl,List.drop_zero,hp,hu]
 simp [uC,tx]
theorem qWV {s:List UInt8} (h:jJ s) (r:List UInt8):zV (zL s++r) [tx s] r:=by
 have:=zHP h r
 exact zV.one (b:=34) (w:=kO s++[34]) (by decide) this rfl
theorem zHR {s:List UInt8} (h:jJ s) (r:List UInt8):kI (46::zL s++r)=(ky s,(zL s).length+1):=by
 have hu:=qGD s r h.1 h.2
 have hl:wM (46::zL s++r)=(3,1):=by
  unfold wM zL
  rw [if_neg (by simp),if_pos ⟨by simp,by simp,.inl (by simp)⟩]
 have hp:qY (zL s++r) [34]=true:=by simp [qY,zL]
 have hd:(46::zL s++r).drop 1=zL s++r:=rfl
 unfold kI
 simp only [hl,hd,hp,hu]
 simp [uC,ky]; omega
theorem zKQ {s:List UInt8} (h:jJ s) (r:List UInt8):zV (46::zL s++r) [ky s] r:=zV.one (by decide) (zHR h r) rfl
theorem zFK {b:UInt8} (h:qF b=true):yR b=false∧b≠36∧b≠46∧b≠34∧kD b=false∧b≠101∧b≠69:=by
 have:=(qIK b).1 h
 have h1:∀ k:UInt8,(k.toNat<48∨57<k.toNat)→b≠k:=fun k hk e=>by subst e; omega
 refine ⟨?_,h1 _ (by decide),h1 _ (by decide),h1 _ (by decide), ?_,h1 _ (by decide),h1 _ (by decide)⟩
 ·unfold yR; simp [h1 32 (by decide),h1 9 (by decide),h1 10 (by decide),h1 13 (by decide)]
 unfold kD; simp; omega
theorem zAQ {s:List UInt8} {d:Dc} {b:UInt8} {w:List UInt8} (hs:s=b::w) (hb:qF b=true) (hx:qAV s=s.length) (hp:jL s=(d,0)):kI s=(nm d,s.length):=by
 subst hs
 obtain ⟨g1,g2,g3,g4,g5, -⟩:=zFK hb
 have hl:wM (b::w)=(0,0):=by
  unfold wM
  rw [if_neg (by simpa using g2),if_neg (by simp [g3])]
 have hpre:qY (b::w) [34]=false:=by simp [qY,g4]
 have h1:spn kD (b::w)=0:=by simp [spn,List.takeWhile_cons,g5]
 have h2:0<spn qF (b::w):=by simp [spn,List.takeWhile_cons,hb]
 unfold kI
 simp only [hl,List.drop_zero,hpre,h1]
 rw [if_neg (by simp),if_neg (by simp),if_pos h2,hx,List.take_length,hp]
 simp [nm]
theorem qIE {d:Dc} (h:yO d=true) (hn:d.neg=false):∃ b w,kU d=b::w∧qF b=true∧qAV (kU d)=(kU d).length:=by
 obtain ⟨W,R,hp,hW,hR,h0,h1,h2⟩:=qLW h
 rw [hn] at hp
 simp only [Bool.false_eq_true,if_false,List.nil_append] at hp
 obtain ⟨b,w,rfl⟩:=List.exists_cons_of_ne_nil h0
 have hb:qF b=true:=by simp only [List.all_cons,Bool.and_eq_true] at hW; exact hW.1
 refine ⟨b,_,by rw [hp]; rfl,hb, ?_⟩
 rw [hp]
 by_cases c:R=[]
 ·subst c
  simp only [if_true,List.append_nil]
  have hs:spn qF (b::w)=(b::w).length:=qDD hW
  unfold qAV
  simp only
  rw [hs]
  have hf:vL (b::w) (b::w).length=(b::w).length:=by
   unfold vL
   rw [List.drop_length,if_neg (by simp [qY])]
  rw [hf,if_pos (.inl rfl)]
 rw [if_neg c]
 have hd:qF 46=false:=by decide
 have hs:spn qF (b::w++46::R)=(b::w).length:=by
  rw [xT hd,qDD hW]
 have hsR:spn qF R=R.length:=qDD hR
 have hRp:=List.length_pos_iff.2 c
 unfold qAV
 simp only
 rw [hs]
 have hf:vL (b::w++46::R) (b::w).length=(b::w++46::R).length:=by
  unfold vL
  have e1:(b::w++46::R).drop (b::w).length=46::R:=List.drop_left
  have e2:(b::w++46::R).drop ((b::w).length+1)=R:=by rw [← List.drop_drop,e1]; rfl
  rw [e1,e2,hsR,if_pos ⟨by simp [qY],hRp⟩]
  simp; omega
 rw [hf,if_pos (.inl rfl)]
theorem qWW {d:Dc} {c:UInt8} (h:yO d=true) (hn:d.neg=false) (hc:c∈xU) (r:List UInt8):zV (kU d++c::r) [nm d] (c::r):=by
 obtain ⟨b,w,e,hb,hx⟩:=qIE h hn
 have h1:=zAQ e hb hx (qRA h)
 rw [e] at h1 ⊢
 exact qMG (zFK hb).1 h1 rfl hc r
def qDI (d:Dc):List Tok:=if d.neg=true then [sg [45],nm ⟨false,d.digits,d.scale⟩] else [nm d]
theorem zHW {d:Dc} (h:yO d=true):yO ⟨false,d.digits,d.scale⟩=true:=by
 unfold yO at h ⊢
 simp only [Bool.and_eq_true] at h ⊢
 refine ⟨h.1, ?_⟩
 by_cases e:d.digits=[48]
 ·rw [if_pos e] at h ⊢; simp at h ⊢; exact h.2.1
 rw [if_neg e] at h ⊢; exact h.2
theorem zAK (g s:List UInt8) (k:Int):kU ⟨true,s,k⟩=45::kU ⟨false,s,k⟩:=by
 unfold kU; simp [yZ]
theorem zKS {d:Dc} {c:UInt8} (h:yO d=true) (hc:c∈xU) (r:List UInt8):zV (kU d++c::r) (qDI d) (c::r):=by
 unfold qDI
 by_cases hn:d.neg=true
 ·rw [if_pos hn]
  obtain ⟨neg,s,k⟩:=d
  simp only at hn
  subst hn
  rw [zAK []]
  have h2:=zHW h
  have h3:=qWW h2 rfl hc r
  obtain ⟨b,w,e,hb, -⟩:=qIE h2 rfl
  rw [e] at h3 ⊢
  exact (qUN hb _).trans h3
 rw [if_neg hn]
 exact qWW h (by simpa using hn) hc r
def qYT (n:Nat):Bool:=yO ⟨false,Lib.itoa n,0⟩ && decide (kU ⟨false,Lib.itoa n,0⟩=Lib.itoa n) && decide ((kX (Lib.itoa n)).1=n) && okD ⟨false,Lib.itoa n,0⟩
theorem zAS:(List.range 1000).all qYT=true:=by decide +kernel
theorem qEG {n:Nat} (h:n≤999):yO ⟨false,Lib.itoa n,0⟩=true∧kU ⟨false,Lib.itoa n,0⟩=Lib.itoa n∧(kX (Lib.itoa n)).1=n∧okD ⟨false,Lib.itoa n,0⟩=true:=by
 have:=List.all_eq_true.1 zAS n (List.mem_range.2 (by omega))
 simpa [qYT,and_assoc] using this
theorem qYX {n:Nat} {c:UInt8} (h:n≤999) (hc:c∈xU) (r:List UInt8):zV (Lib.itoa n++c::r) [nm ⟨false,Lib.itoa n,0⟩] (c::r):=by
 obtain ⟨h1,h2, -⟩:=qEG h
 have:=qWW h1 rfl hc r
 rwa [h2] at this
def itT (n:Int):List Tok:=if n<0 then [sg [45],nm ⟨false,Lib.itoa (-n),0⟩] else [nm ⟨false,Lib.itoa n,0⟩]
theorem zEL {n:Int} {c:UInt8} (h1 : -999≤n) (h2:n≤999) (hc:c∈xU) (r:List UInt8):zV (Lib.itoa n++c::r) (itT n) (c::r):=by
 unfold itT
 by_cases hn:n<0
 ·rw [if_pos hn]
  obtain ⟨k,rfl⟩:∃ k:Nat,n = -(k:Int):=⟨n.natAbs,by omega⟩
  have e:Lib.itoa (-(k:Int))=45::Lib.itoa (k:Int):=by
   unfold Lib.itoa
   rw [if_pos hn,if_neg (by omega)]
   simp
  rw [e,Int.neg_neg]
  obtain ⟨g1,g2, -⟩:=qEG (n:=k) (by omega)
  have h3:=qYX (n:=k) (by omega) hc r
  obtain ⟨b,w,e2,hb, -⟩:=qIE g1 rfl
  rw [g2] at e2
  rw [e2] at h3 ⊢
  exact (qUN hb _).trans h3
 rw [if_neg hn]
 obtain ⟨k,rfl⟩:∃ k:Nat,n=(k:Int):=⟨n.toNat,by omega⟩
 exact qYX (by omega) hc r
end Go.Proofs.YtbhhphabggcacaaGreatDoor
