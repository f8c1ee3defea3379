import Derived.Test.YtbhhphabggcacaaGreatDoorK1
namespace Go.Proofs.YtbhhphabggcacaaGreatDoor
open Sy Go
set_option maxRecDepth 100000
set_option maxHeartbeats 1000000
set_option linter.unusedSimpArgs false
set_option linter.unusedVariables false
def shT (c:Int) (t:Tok):Tok:={ t with pos:=t.pos+c }
def qBW (g:Tok→Tok):Prop:=∀ t,(g t).kind=t.kind∧(g t).text=t.text∧(g t).num=t.num
theorem zIJ (c:Int):qBW (shT c):=fun t=>⟨rfl,rfl,rfl⟩
def shS (g:Tok→Tok) (s:PS):PS:={ s with left:=s.left.map g }
theorem zHE {g:Tok→Tok} (hg:qBW g) (s:PS):(wZ (shS g s)).kind=(wZ s).kind∧(wZ (shS g s)).text=(wZ s).text∧(wZ (shS g s)).num=(wZ s).num:=by
 unfold wZ shS
 simp only
 split
 ·exact ⟨rfl,rfl,rfl⟩
 cases s.left with
 | nil=>exact ⟨rfl,rfl,rfl⟩
 | cons t l=>exact hg t
def qVD (f:Tok→Bool):Prop:=∀ t u:Tok,t.kind=u.kind→t.text=u.text→t.num=u.num→f t=f u
theorem qEB {g:Tok→Tok} (hg:qBW g) {f:Tok→Bool} (hf:qVD f)  (s:PS):(qP f (shS g s)).1.1.kind=(qP f s).1.1.kind∧(qP f (shS g s)).1.1.text=(qP f s).1.1.text∧(qP f (shS g s)).1.1.num=(qP f s).1.1.num∧(qP f (shS g s)).1.2=(qP f s).1.2∧(qP f (shS g s)).2=shS g (qP f s).2:=by
 obtain ⟨h1,h2,h3⟩:=zHE hg s
 have h4:=hf _ _ h1 h2 h3
 unfold qP
 rw [h1,h4]
 split
 ·exact ⟨rfl,rfl,rfl,rfl,rfl⟩
 exact ⟨h1,h2,h3,rfl,by simp [shS]⟩
theorem zBL (k:Int) (l:List (List UInt8)):qVD (wH k l):=fun t u h1 h2 h3=>by unfold wH; rw [h1,h2]
theorem qIQ (l:List Int):qVD (fun t=>decide (t.kind∈l)):=fun t u h1 h2 h3=>by simp only [h1]
theorem qXC:qVD (fun t=>decide (t.kind=3)):=fun t u h1 h2 h3=>by simp only [h1]
theorem zEZ:qVD (fun _=>true):=fun _ _ _ _ _=>rfl
theorem qBZ {g:Tok→Tok} (hg:qBW g) (k:Int) (l:List (List UInt8)) (s:PS):qT k l (shS g s)=((qT k l s).1,shS g (qT k l s).2):=by
 obtain ⟨h1,h2,h3,h4,h5⟩:=qEB hg (zBL k l) s
 unfold qT; rw [h2,h4,h5]
theorem qAM (g:Tok→Tok) (ok:Bool) (s:PS):qK ok (shS g s)=shS g (qK ok s):=rfl
theorem vQ {g:Tok→Tok} (hg:qBW g) (k:Int) (w:List UInt8) (s:PS):zA k w (shS g s)=shS g (zA k w s):=by
 unfold zA; rw [qBZ hg,qAM]
theorem qBF {g:Tok→Tok} (hg:qBW g) (l:List Int) (s:PS):(zD l (shS g s)).2=shS g (zD l s).2:=by
 obtain ⟨h1,h2,h3,h4,h5⟩:=qEB hg (qIQ l) s
 unfold zD; simp only; rw [h4,h5,qAM]
theorem qGP {g:Tok→Tok} (hg:qBW g) (l:List Int) (s:PS):(zD l (shS g s)).1.text=(zD l s).1.text:=(qEB hg (qIQ l) s).2.1
theorem qTP {g:Tok→Tok} (hg:qBW g) (l:List Int) (s:PS):(zD l (shS g s)).1.num=(zD l s).1.num:=(qEB hg (qIQ l) s).2.2.1
theorem qTO {g:Tok→Tok} (hg:qBW g) (s:PS):wY (shS g s)=((wY s).1,shS g (wY s).2):=by
 unfold wY; rw [qTP hg,qBF hg,qAM]
theorem qCA (g:Tok→Tok) (x:Nd) (s:PS):wF x (shS g s)=((wF x s).1,shS g (wF x s).2):=rfl
theorem qEX (g:Tok→Tok) (o:Int) (t:List UInt8) (l:List Int) (s:PS):opP o t l (shS g s)=((opP o t l s).1,shS g (opP o t l s).2):=rfl
theorem zJR (g:Tok→Tok) (b:Int) (s:PS):upP b (shS g s)=shS g (upP b s):=rfl
theorem qQT (g:Tok→Tok) (b:Int) (s:PS):yN b (shS g s)=shS g (yN b s):=rfl
theorem qQU (g:Tok→Tok) (s:PS):(shS g s).bad=s.bad:=rfl
theorem zHF (g:Tok→Tok) (s:PS):({ shS g s with deep:=(shS g s).deep+1 }:PS)=shS g { s with deep:=s.deep+1 }:=rfl
theorem zHG {g:Tok→Tok} (hg:qBW g) (w:List UInt8) (s:PS):jG w (shS g s)=((jG w s).1,shS g (jG w s).2):=by
 unfold jG
 split
 ·rw [qAM,qCA]
 split
 ·rw [vQ hg,qGP hg,qBF hg,vQ hg,qCA]
 rw [qCA]
structure ShAll (g:Tok→Tok) (n:Nat):Prop where
 pipe:∀ s,zF n (shS g s)=((zF n s).1,shS g (zF n s).2)
 deeper:∀ b s,qW n b (shS g s)=((qW n b s).1,shS g (qW n b s).2)
 closed:∀ w s,qQ n w (shS g s)=((qQ n w s).1,shS g (qQ n w s).2)
 inside:∀ s,zB n (shS g s)=((zB n s).1,shS g (zB n s).2)
 bound:∀ i s,qL n i (shS g s)=((qL n i s).1,shS g (qL n i s).2)
 bloop:∀ i a s,wO n i a (shS g s)=((wO n i a s).1,shS g (wO n i a s).2)
 post:∀ s,wQ n (shS g s)=((wQ n s).1,shS g (wQ n s).2)
 ploop:∀ a s,zW n a (shS g s)=((zW n a s).1,shS g (zW n a s).2)
 term:∀ s,zM n (shS g s)=((zM n s).1,shS g (zM n s).2)
 named:∀ w s,zS n w (shS g s)=((zS n w s).1,shS g (zS n w s).2)
 choice:∀ s,wB n (shS g s)=((wB n s).1,shS g (wB n s).2)
 reduce:∀ s,zY n (shS g s)=((zY n s).1,shS g (zY n s).2)
 limit:∀ s,wV n (shS g s)=((wV n s).1,shS g (wV n s).2)
 maps:∀ s,kC n (shS g s)=((kC n s).1,shS g (kC n s).2)
 selects:∀ s,zO n (shS g s)=((zO n s).1,shS g (zO n s).2)
 signed:∀ w s,zJ n w (shS g s)=((zJ n w s).1,shS g (zJ n w s).2)
 object:∀ s,zZ n (shS g s)=((zZ n s).1,shS g (zZ n s).2)
 oloop:∀ ks vs s,wG n ks vs (shS g s)=((wG n ks vs s).1,shS g (wG n ks vs s).2)
theorem wA {p:Prop} [Decidable p] {α:Type} {g:Tok→Tok} {a b a' b':α × PS} (ha:a'=(a.1,shS g a.2)) (hb:b'=(b.1,shS g b.2)):(if p then a' else b')=((if p then a else b).1,shS g (if p then a else b).2):=by split <;> assumption
theorem zDR {g:Tok→Tok} (hg:qBW g):∀ n,ShAll g n
 | 0=>by
  constructor <;> intros <;> simp only [zF,qW,qQ,zB,qL,wO,wQ,zW,zM,zS,wB,zY,wV,kC,zO,zJ,zZ,wG,qAM]
 | n+1=>by
  have ih:=zDR hg n
  constructor
  ·intro s
   simp only [zF,ih.bound,qBZ hg,ih.pipe,qEX,qBF hg,qGP hg,vQ hg,ih.deeper]
   exact wA rfl (wA rfl rfl)
  ·intro b s
   simp only [qW,zJR,qQU,ih.pipe,qQT]
   exact wA rfl rfl
  ·intro w s
   simp only [qQ,ih.deeper,vQ hg]
  ·intro s
   simp only [zB,vQ hg,ih.closed]
  ·intro i s
   simp only [qL,ih.post,ih.bound,ih.bloop]
   exact wA rfl rfl
  ·intro i a s
   simp only [wO,qQU,qBZ hg,ih.bound,qEX,ih.bloop]
   exact wA rfl (wA rfl (wA rfl rfl))
  ·intro s
   simp only [wQ,ih.term,ih.ploop]
  ·intro a s
   obtain ⟨h1,h2,h3,h4,h5⟩:=qEB hg qXC s
   simp only [zW,qQU,h2,h4,h5,qEX,ih.ploop,qBZ hg,qTO hg,vQ hg,qCA]
   exact wA rfl (wA rfl (wA rfl (wA rfl rfl)))
  ·intro s
   obtain ⟨h1,h2,h3,h4,h5⟩:=qEB hg zEZ s
   simp only [zM,h1,h2,h3,h4,h5,qAM,ih.named,qEX,qCA,ih.signed]
   exact wA rfl (wA rfl (wA rfl (wA rfl (wA rfl rfl))))
  ·intro w s
   simp only [zS,qCA,qEX,ih.choice,ih.post,ih.inside,ih.reduce,ih.limit,ih.maps,ih.selects,zHG hg]
   exact wA rfl (wA rfl (wA rfl (wA rfl (wA rfl (wA rfl (wA rfl (wA rfl (wA rfl (wA rfl (wA rfl (wA rfl (wA rfl rfl))))))))))))
  ·intro s
   simp only [wB,zHF,ih.deeper,vQ hg,qQT,qEX]
  ·intro s
   simp only [zY,ih.post,vQ hg,qBF hg,qGP hg,ih.closed,qEX]
  ·intro s
   simp only [wV,vQ hg,qTO hg,ih.closed,qCA]
  ·intro s
   simp only [kC,qEX,ih.inside]
  ·intro s
   simp only [zO,qEX,ih.inside]
  ·intro w s
   simp only [zJ,qEX,qTP hg,qBF hg,qCA,ih.closed,qBZ hg,ih.object,qAM]
   exact wA rfl (wA rfl (wA rfl (wA (wA rfl rfl) (wA rfl rfl))))
  ·intro s
   simp only [zZ,qBZ hg,qCA,zJR,ih.oloop,qQT]
   exact wA rfl rfl
  intro ks vs s
  simp only [wG,qQU,qGP hg,qBF hg,vQ hg,qAM,ih.bound,qBZ hg,ih.oloop]
  exact wA rfl (wA rfl (wA rfl rfl))
theorem zDQ {g:Tok→Tok} (hg:qBW g) (l:List Tok):vN (l.map g)=vN l:=by
 have h:=(zDR hg (20 * l.length+20)).pipe ⟨l,[],0,false⟩
 unfold vN
 rw [List.length_map]
 rw [show (⟨l.map g,[],0,false⟩:PS)=shS g ⟨l,[],0,false⟩ from rfl,h]
 simp only
 generalize (zF (20 * l.length+20) ⟨l,[],0,false⟩).2=s
 have e:(shS g s).bad=true∨(shS g s).left≠[]↔s.bad=true∨s.left≠[]:=by simp [shS]
 by_cases d:s.bad=true∨s.left≠[]
 ·rw [if_pos d,if_pos (e.2 d)]
 rw [if_neg d,if_neg fun x=>d (e.1 x)]; rfl
end Go.Proofs.YtbhhphabggcacaaGreatDoor
