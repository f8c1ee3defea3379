import Derived.Test.YtbhhphabggcacaaGreatDoorSLexR
import Derived.Test.YtbhhphabggcacaaGreatDoorSSynFr
namespace Go.Proofs.YtbhhphabggcacaaGreatDoor
open Sy Go
set_option maxRecDepth 100000
set_option linter.unusedSimpArgs false
set_option linter.unusedVariables false
theorem qUP:∀ (n a:Nat) (r:List UInt8) (l:List Tok),wS n a r=some l→l.length≤r.length
 | 0,a,r,l,h=>by simp [wS] at h
 | n+1,a,r,l,h=>by
  simp only [wS] at h
  split at h
  ·cases h; simp
  rename_i hq
  split at h
  ·cases h
  rename_i h0
  obtain ⟨l',e1,rfl⟩:=Option.map_eq_some_iff.1 h
  have h1:=qUP n _ _ l' e1
  have h2:=qGW hq
  simp only [List.length_drop,List.length_cons] at h1 h2 ⊢
  omega
theorem uZ {s : List UInt8} (h : s.length ≤ 600) : qBJ s = match wS (s.length + 1) 0 s with
  | none=>([],30)
  | some l=>(l,0):=by
 unfold qBJ
 rw [if_neg (by omega)]
 cases e:wS (s.length+1) 0 s with
 | none=>rfl
 | some l =>
  have:=qUP _ _ _ _ e
  simp only
  rw [if_neg (by omega)]
theorem zDG (c:Int) (l:List Tok):vN (l.map (shT c))=vN l:=zDQ (zIJ c) l
theorem qPQ:∀ (n m a:Nat) (r:List UInt8),r.length<n→r.length<m→wS n a r=wS m a r
 | 0,_,_,_,h,_=>by omega
 | _+1,0,_,_,_,h=>by omega
 | n+1,m+1,a,r,h1,h2=>by
  simp only [wS]
  split
  ·rfl
  rename_i hq
  split
  ·rfl
  rename_i h0
  have h3:=qGW hq
  simp only [List.length_drop] at h3
  rw [qPQ n m _ _ (by simp only [List.length_drop]; omega) (by simp only [List.length_drop]; omega)]
theorem qMI {n a k:Nat} {r:List UInt8} {t:Tok} (h0:spn yR r=0) (hne:r≠[]) (ho:kI r=(t,k)) (hk:k≠0):wS (n+1) a r=(wS n (a+k) (r.drop k)).map fun l=>{ t with pos:=(a:Int) }::l:=by
 simp only [wS]
 rw [h0,List.drop_zero,if_neg hne,ho]
 simp only
 rw [if_neg hk,Nat.add_zero]
theorem qWG {s:List UInt8} (h:s.length≤590):yG ([32,10]++s++[9,32])=yG s:=by
 have e:wS (([32,10]++s++[9,32]).length+1) 0 ([32,10]++s++[9,32])=(wS (s.length+1) 0 s).map (List.map (shT 2)):=by
  rw [List.append_assoc,qEK [32,10] (by decide)]
  rw [show (0+[(32:UInt8),10].length)=0+2 from rfl]
  rw [qFP [32] (by decide) (s.length+1) _ _ s (by omega) (by simp),qCF]
  rfl
 unfold yG
 rw [uZ (by simp; omega),uZ (by omega),e]
 cases wS (s.length+1) 0 s with
 | none=>rfl
 | some l=>simp only [Option.map_some,if_true]; rw [zDG]
theorem qLF (s:List UInt8) (h:(yG s).2≠0):(yG s).1=[]:=by
 unfold yG at h ⊢
 split
 ·rename_i c
  rw [if_pos c] at h
  unfold vN at h ⊢
  simp only at h ⊢
  split
  ·rfl
  rename_i c1
  rw [if_neg c1] at h
  split
  ·rfl
  rename_i c2
  rw [if_neg c2] at h; exact absurd rfl h
 rfl
theorem qTA {s:List UInt8} (hs:s.length≤600) (h:(yG s).2=0):∃ l,wS (s.length+1) 0 s=some l∧yG s=vN l:=by
 unfold yG at h ⊢
 rw [uZ hs] at h ⊢
 cases e:wS (s.length+1) 0 s with
 | none=>rw [e] at h; simp at h
 | some l=>exact ⟨l,rfl,by simp⟩
theorem qGM {l:List Tok} (h:(vN l).2=0):(zF (20 * l.length+20) ⟨l,[],0,false⟩).2.bad=false∧(zF (20 * l.length+20) ⟨l,[],0,false⟩).2.left=[]∧(zF (20 * l.length+20) ⟨l,[],0,false⟩).2.nodes.length≤400∧(vN l).1=(zF (20 * l.length+20) ⟨l,[],0,false⟩).2.nodes:=by
 unfold vN at h ⊢
 simp only at h ⊢
 generalize (zF (20 * l.length+20) ⟨l,[],0,false⟩).2=s at *
 by_cases c1:s.bad=true∨s.left≠[]
 ·rw [if_pos c1] at h; simp at h
 rw [if_neg c1] at h
 by_cases c2:400<s.nodes.length
 ·rw [if_pos c2] at h; simp at h
 rw [if_neg c1,if_neg c2]
 simp only [not_or,ne_eq,Decidable.not_not,Bool.not_eq_true] at c1
 exact ⟨c1.1,c1.2,by omega,rfl⟩
theorem qYJ {l:List Tok} (h:(zF (20 * l.length+20) ⟨l,[],0,false⟩).2.bad=true∨(zF (20 * l.length+20) ⟨l,[],0,false⟩).2.left≠[]):(vN l).2=31:=by
 unfold vN
 simp only
 rw [if_pos h]
theorem zKU (m b:Nat) (h:2<m):wS m b [32,41]=some [⟨6,((b+1:Nat):Int),[41],⟨false,[],0⟩⟩]:=by
 obtain ⟨m,rfl⟩:∃ k,m=k+2:=⟨m-2,by omega⟩
 have h1:spn yR [32,41]=1:=by decide
 simp only [wS]
 rw [h1]
 simp only [List.drop_succ_cons,List.drop_zero]
 rw [if_neg (by simp),zNO]
 simp only
 rw [if_neg (by decide)]
 have h2:spn yR ([]:List UInt8)=0:=by decide
 simp only [List.drop_succ_cons,List.drop_zero,h2]
 simp
theorem zAE {s:List UInt8} (hs:s.length≤590) (h:(yG s).2=0):(yG (s++[32,41])).2=31:=by
 obtain ⟨l,h1,h2⟩:=qTA (by omega) h
 rw [h2] at h
 obtain ⟨g1,g2, -, -⟩:=qGM h
 obtain ⟨m,b,i1,i2⟩:=qIH (c:=32) (by decide) [41] (s.length+1) ((s++[32,41]).length+1) 0 s l (by omega) (by omega) h1
 rw [zKU m b i1] at i2
 unfold yG
 rw [uZ (by simp; omega),i2]
 simp only [Option.map_some,if_true]
 generalize hr:(⟨6,((b+1:Nat):Int),[41],⟨false,[],0⟩⟩:Tok)=rp
 have hx:Rps [rp]:=fun t ht=>by simp at ht; subst ht; subst hr; exact ⟨rfl,rfl⟩
 have hf:=(qMY hx (d:=0) (by omega) (20 * l.length+20)).pipe (20 * (l++[rp]).length+20) (by simp; omega) ⟨l,[],0,false⟩ g1
 rw [show apS [rp] 0 ⟨l,[],0,false⟩=⟨l++[rp],[],0,false⟩ from rfl] at hf
 apply qYJ
 rw [hf]
 exact .inr (by simp [apS])
theorem zDO {w:List UInt8} {s:PS} (h:s.left=[]):(zA 6 w s).bad=true:=by
 cases e:(zA 6 w s).bad with
 | true=>rfl
 | false =>
  have h1:=(qAO e).2
  have h2:=(xH h1).1
  rw [h] at h2; simp at h2
theorem qIZ {c d:Nat} {s t:PS} (h:Le c d s t) (hb:s.bad=true):t.bad=true:=h.b0 hb
theorem qTZ {n:Nat} {l:List Tok} {p:Int} (h:(qQ n [41] ⟨l,[],0,false⟩).2.bad=true):(zF (n+11) ⟨⟨6,p,[40],⟨false,[],0⟩⟩::l,[],0,false⟩).2.bad=true:=by
 have hp:(wQ (n+3) ⟨⟨6,p,[40],⟨false,[],0⟩⟩::l,[],0,false⟩).2.bad=true:=by
  simp only [wQ]
  refine qIZ ((zK _).ploop _ _) ?_
  have e:zM (n+2) ⟨⟨6,p,[40],⟨false,[],0⟩⟩::l,[],0,false⟩=qQ n [41] ⟨l,[],0,false⟩:=by
   simp [zM,qP,wZ,qK,zJ]
  rw [e]; exact h
 generalize (⟨⟨6,p,[40],⟨false,[],0⟩⟩::l,[],0,false⟩:PS)=s at *
 have h6:(qL (n+4) 6 s).2.bad=true:=by simp only [qL,if_true]; exact hp
 have st:∀ m i,i<6→(qL m (i+1) s).2.bad=true→(qL (m+1) i s).2.bad=true:=fun m i hi hb=>by
  simp only [qL]
  rw [if_neg (by omega)]
  exact qIZ ((zK _).bloop _ _ _) hb
 have hpp:∀ m,(qL m 0 s).2.bad=true→(zF (m+1) s).2.bad=true:=fun m h0=>by
  simp only [zF]
  have ht:(qT 6 [[124]] (qL m 0 s).2).2.bad=true:=qIZ (zP _ _ _) h0
  split
  ·exact qIZ ((Le.trans ((zK _).pipe _) (wW _ _ _ _))) ht
  have hq:=qIZ (zP 1 [[97,115]] _) ht
  split
  ·exact qIZ ((((kK _ _).trans (qU _ _ _)).trans ((zK _).deeper 0 _ (by omega))).trans (wW _ _ _ _)) hq
  exact hq
 have h0:=st _ 0 (by omega) (st _ 1 (by omega) (st _ 2 (by omega) (st _ 3 (by omega) (st _ 4 (by omega) (st _ 5 (by omega) h6)))))
 exact hpp _ h0
theorem qTU {n:Nat} {l:List Tok} {x:List Tok} (hx:Rps x) (g1:(zF (20 * l.length+20) ⟨l,[],0,false⟩).2.bad=false) (hn:20 * l.length+20≤n) (hb:(zF n ⟨l++x,[],1,false⟩).2.bad=false):(zF n ⟨l++x,[],1,false⟩).2.left=(zF (20 * l.length+20) ⟨l,[],0,false⟩).2.left++x∧(zF n ⟨l++x,[],1,false⟩).2.nodes=(zF (20 * l.length+20) ⟨l,[],0,false⟩).2.nodes:=by
 have h1:=(qMY (x:=[]) (fun t ht=>by cases ht) (d:=1) (by omega) n).pipe n (Nat.le_refl _) ⟨l++x,[],1,false⟩ hb
 have h2:=(qMY hx (d:=0) (by omega) (20 * l.length+20)).pipe n hn ⟨l,[],0,false⟩ g1
 rw [show apS [] 1 ⟨l++x,[],1,false⟩=⟨l++x,[],0,false⟩ by simp [apS]] at h1
 rw [show apS x 0 ⟨l,[],0,false⟩=⟨l++x,[],0,false⟩ by simp [apS],h1] at h2
 have h3:=congrArg (fun z=>z.2.left) h2
 have h4:=congrArg (fun z=>z.2.nodes) h2
 simp only [apS,List.append_nil] at h3 h4
 exact ⟨h3,h4⟩
theorem qNG {n:Nat} {l x:List Tok} (hb:(qQ (n+2) [41] ⟨l++x,[],0,false⟩).2.bad=false):(zF n ⟨l++x,[],1,false⟩).2.bad=false∧(qQ (n+2) [41] ⟨l++x,[],0,false⟩)=((zF n ⟨l++x,[],1,false⟩).1,zA 6 [41] (yN 1 (zF n ⟨l++x,[],1,false⟩).2)):=by
 have hu:upP 1 ⟨l++x,[],0,false⟩=⟨l++x,[],1,false⟩:=by simp [upP,qK]
 have e:qW (n+1) 1 ⟨l++x,[],0,false⟩=((zF n ⟨l++x,[],1,false⟩).1,yN 1 (zF n ⟨l++x,[],1,false⟩).2):=by
  simp only [qW]
  rw [hu]; rfl
 have e2:(qQ (n+2) [41] ⟨l++x,[],0,false⟩)=((zF n ⟨l++x,[],1,false⟩).1,zA 6 [41] (yN 1 (zF n ⟨l++x,[],1,false⟩).2)):=by
  simp only [qQ]
  rw [e]
 refine ⟨?_,e2⟩
 rw [e2] at hb
 have:=nbP (qU _ _ _) hb
 exact this
theorem zDH {s:List UInt8} (hs:s.length≤590) (h:(yG s).2=0):(yG ([40,32]++s)).2=31:=by
 obtain ⟨l,h1,h2⟩:=qTA (by omega) h
 rw [h2] at h
 obtain ⟨g1,g2, -, -⟩:=qGM h
 have e:wS (([40,32]++s).length+1) 0 ([40,32]++s)=some (⟨6,0,[40],⟨false,[],0⟩⟩::l.map (shT 2)):=by
  rw [show ([40,32]++s:List UInt8).length+1=(s.length+2)+1 by simp]
  have h0:spn yR ([40,32]++s)=0:=by simp [spn,List.takeWhile_cons,yR]
  rw [qMI h0 (by simp) (qIB (b:=40) (by decide) (32::s)) (by decide)]
  rw [show ([40,32]++s:List UInt8).drop 1=[32]++s from rfl,qEK [32] (by decide),qPQ _ (s.length+1) _ s (by omega) (by omega)]
  rw [show (0+1+[(32:UInt8)].length)=0+2 from rfl,qCF,h1]
  rfl
 unfold yG
 rw [uZ (by simp; omega),e]
 simp only [if_true]
 rw [show (⟨6,0,[40],⟨false,[],0⟩⟩::l.map (shT 2):List Tok)=(⟨6, -2,[40],⟨false,[],0⟩⟩::l).map (shT 2) from rfl,zDG]
 apply qYJ
 refine .inl ?_
 rw [show 20 * (⟨6, -2,[40],⟨false,[],0⟩⟩::l:List Tok).length+20=(20 * l.length+29)+11 by simp only [List.length_cons]; omega]
 apply qTZ
 rw [← List.append_nil l]
 cases hb:(qQ (20 * l.length+29) [41] ⟨l++[],[],0,false⟩).2.bad with
 | true=>simpa using hb
 | false =>
  exfalso
  obtain ⟨k1,k2⟩:=qNG (n:=20 * l.length+27) hb
  obtain ⟨k3,k4⟩:=qTU (x:=[]) (fun t ht=>by cases ht) g1 (n:=20 * l.length+27) (by omega) k1
  rw [k2] at hb
  rw [g2] at k3
  have:=zDO (w:=[41]) (s:=yN 1 (zF (20 * l.length+27) ⟨l++[],[],1,false⟩).2) (by simpa [yN] using k3)
  simp only at hb
  rw [this] at hb; cases hb
end Go.Proofs.YtbhhphabggcacaaGreatDoor
