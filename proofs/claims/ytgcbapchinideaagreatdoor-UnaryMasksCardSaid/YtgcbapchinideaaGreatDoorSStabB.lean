import Derived.Test.YtgcbapchinideaaGreatDoorSSymM
set_option linter.all false
namespace Go.Proofs.YtgcbapchinideaaGreatDoor
open Sy Go
set_option maxRecDepth 100000
def vF (s:Nat):Nat->List Val->List Val
 | 0,_=>[]
 | k+1,l=>vF s k l++srt leV ((l.drop (s * k)).take s)
def zFX (s:Nat):Nat->List Val->List Val
 | 0,l=>srt leV l
 | f+1,l=>if l.length<=s then srt leV l else srt leV (l.take s)++zFX s f (l.drop s)
theorem qSO {s:Nat}:∀ (k:Nat) (l:List Val),s * k<=l.length->(vF s k l).length=s * k
 | 0,_,_=>by simp[vF]
 | k+1,l,h=>by
  rw[iC]at h ⊢;simp only[vF,bU,uE,cK,bQ];rw[qSO k l (by omega)];omega
theorem qCY {s:Nat} {l:List Val} (h:l.length<=s):∀ f,zFX s f l=srt leV l
 | 0=>rfl
 | f+1=>by unfold zFX;rw[bE h]
theorem qYC {s:Nat} (hs:0<s):∀ (f g:Nat) (l:List Val),l.length<=f->l.length<=g->zFX s f l=zFX s g l
 | 0,g,l,h,_=>by rw[qCY (by omega),qCY (by omega)]
 | f+1,0,l,_,h=>by rw[qCY (by omega),qCY (by omega)]
 | f+1,g+1,l,h1,h2=>by
  unfold zFX;by_cases h:l.length<=s
  ·rw[bE h,bE h]
  rw[bD h,bD h,qYC hs f g (l.drop s) (by rw[bQ];omega) (by rw[bQ];omega)]
def qGY (s:Nat) (l:List Val):List Val:=zFX s l.length l
theorem jK {s:Nat} {l:List Val} (h:l.length<=s):qGY s l=srt leV l:=qCY h _
theorem qIE {s:Nat} {l:List Val} (hs:0<s) (h:s<l.length):qGY s l=srt leV (l.take s)++qGY s (l.drop s):=by
 unfold qGY;obtain⟨f,hf⟩:∃ f,l.length=f+1:=⟨l.length-1,by omega⟩;rw[hf];conv=>lhs;unfold zFX
 rw[bD (by omega),qYC hs f (l.drop s).length (l.drop s) (by rw[bQ];omega) (bP _)]
theorem zVD {s:Nat} (hs:0<s) (l:List Val):(qGY s l).length=l.length:=by
 generalize hn:l.length=n;induction n using Nat.strongRecOn generalizing l with
 | _ n ih =>
  by_cases h:l.length<=s
  ·rw[jK h,uE,hn]
  rw[qIE hs (by omega),bU,uE,ih (l.drop s).length (by rw[bQ];omega) _ rfl,cK,bQ];omega
theorem zZE {s:Nat} {l:List Val} (hs:0<s) (hm:qBP l) (h:2 * s<=l.length):qGY s l=srt leV (l.take s)++(srt leV ((l.drop s).take s)++(if 2 * s<l.length then qGY s (l.drop (2 * s)) else[]))/\mrg leV (srt leV (l.take s)) (srt leV ((l.drop s).take s))=srt leV (l.take (2 * s)):=by
 refine⟨?_, ?_⟩
 ·rw[qIE hs (by omega)];congr 1
  by_cases h2:2 * s<l.length
  ·rw[bE h2,qIE hs (by rw[bQ];omega),dG,show s+s=2 * s by omega]
  rw[bD h2,cR,jK (by rw[bQ];omega),bK (by rw[bQ];omega)]
 have e:l.take (2 * s)=l.take s++(l.drop s).take s:=by
  rw[show 2 * s=s+s by omega,List.take_add]
 rw[e,qQH qCP _ _ (fun v hv=>hm v (cB hv)) (fun v hv=>hm v (cQ (cB hv)))]
theorem zVC {s:Nat} {l:List Val} (hs:0<s) (hm:qBP l) (h1:s<l.length) (h2:l.length<=2 * s):qGY s l=srt leV (l.take s)++srt leV (l.drop s)/\mrg leV (srt leV (l.take s)) (srt leV (l.drop s))=srt leV l:=by
 refine⟨?_, ?_⟩
 ·rw[qIE hs h1,jK (by rw[bQ];omega)]
 have:=qQH qCP (l.take s) (l.drop s) (fun v hv=>hm v (cB hv)) (fun v hv=>hm v (cQ hv));rw[cE]at this;exact this.symm
theorem qZM {s:Nat} (hs:0<s):∀ (k:Nat) (l:List Val),s * k<=l.length->qGY s l=if s * k<l.length\/k=0 then vF s k l++qGY s (l.drop (s * k)) else vF s k l
 | 0,l,_=>by simp[vF]
 | k+1,l,h=>by
  rw[iC]at h;rw[qZM hs k l (by omega),bE (.inl (by omega))];have hd:(l.drop (s * k)).length=l.length-s * k:=bQ;by_cases h2:s * (k+1)<l.length
  ·rw[bE (.inl h2),qIE hs (by rw[hd];rw[iC]at h2;omega),dG,<-iC];simp only[vF,cD]
  rw[bD (by omega)];rw[iC]at h2;rw[jK (by omega)];simp only[vF];rw[bK (by omega)]
end Go.Proofs.YtgcbapchinideaaGreatDoor
