import Derived.Test.YtbhhphabggcacaaGreatDoorSBackS
import Derived.Test.YtbhhphabggcacaaGreatDoorSShown11
namespace Go.Proofs.YtbhhphabggcacaaGreatDoor
open Sy Go
set_option maxRecDepth 100000
set_option maxHeartbeats 2000000
set_option linter.unusedSimpArgs false
set_option linter.unusedVariables false
variable {G:qS}
def tot (l:List (List UInt8)):Nat:=(l.map List.length).sum
@[simp] theorem zOF:tot []=0:=rfl
@[simp] theorem zDB (a:List UInt8) (l:List (List UInt8)):tot (a::l)=a.length+tot l:=by simp [tot]
theorem qYH {l:List (List UInt8)} {a:List UInt8} (h:a∈l):a.length≤tot l:=by
 induction l with
 | nil=>cases h
 | cons b l ih =>
  rcases List.mem_cons.1 h with rfl | h
  ·simp
  have:=ih h; simp; omega
theorem qKW:∀ (l:List (List UInt8)) (k:Nat),tot (l.take k)≤tot l
 | [],k=>by simp
 | a::l,0=>by simp
 | a::l,k+1=>by have:=qKW l k; simp; omega
theorem qSU (l:List (List UInt8)) (k:Nat):tot (l.take k)+(l.getD k []).length≤tot (l.take (k+1)):=by
 induction l generalizing k with
 | nil=>simp
 | cons a l ih =>
  cases k with
  | zero=>simp
  | succ k=>have:=ih k; simp at this ⊢; omega
theorem qVF (ps ks:List (List UInt8)):∀ k,(xZ ps ks k).length≤tot (ps.take k)+tot (ks.take (k-1))
 | 0=>by simp
 | k+1=>by
  have h1:=qVF ps ks k
  have h2:=qSU ps k
  simp only [xZ,List.length_append,Nat.add_sub_cancel]
  by_cases c:k=0
  ·subst c
   simp only [if_true,List.length_nil,Nat.zero_sub] at h1 ⊢; omega
  obtain ⟨j,rfl⟩:∃ j,k=j+1:=⟨k-1,by omega⟩
  have h3:=qSU ks j
  rw [if_neg c]
  simp only [Nat.add_sub_cancel] at h1 ⊢; omega
theorem qHZ (c:UInt8):∀ s:List UInt8,tot (zR c s)≤s.length
 | []=>by simp [zR]
 | b::r=>by
  have:=qHZ c r
  simp only [zR]
  split
  ·simp; omega
  split
  ·simp
  rename_i h t e
  rw [e] at this
  simp at this ⊢; omega
theorem qRS (p:List UInt8) (ks:List (List UInt8)) (k:Nat):(xZ (zR 80 p) ks k).length≤p.length+tot ks:=by
 have h1:=qVF (zR 80 p) ks k
 have h2:=qKW (zR 80 p) k
 have h3:=qKW ks (k-1)
 have h4:=qHZ 80 p
 omega
theorem qLV (s:List UInt8):(zL s).length≤6 * s.length+2:=by
 have h6:∀ b,(qb b).length≤6:=fun b=>by unfold qb; (repeat' split) <;> simp
 have:∀ s:List UInt8,(kO s).length≤6 * s.length:=by
  intro s
  induction s with
  | nil=>simp [kO]
  | cons b s ih =>
   have h:=h6 b
   show (qb b++kO s).length≤_
   rw [List.length_append,List.length_cons]; omega
 have:=this s
 unfold zL
 simp; omega
theorem zNL {d:Dc} (h:yO d=true):(kU d).length≤130:=by
 have hb:=qIW h
 unfold kU yZ yS
 split <;> split <;> simp <;> omega
theorem qZD (sep:List UInt8):∀ l:List (List UInt8),(Lib.join l sep).length≤tot l+sep.length * l.length
 | []=>by simp [Lib.join,List.intercalate]
 | x::r=>by
  rw [Lib.join_length]
  have e:Go.Lib.lens (x::r)=tot (x::r):=by
   have:∀ l:List (List UInt8),Go.Lib.lens l=tot l:=fun l=>by
    induction l with
    | nil=>rfl
    | cons a l ih=>simp [Go.Lib.lens] at ih ⊢; try omega
   exact this _
  rw [e,List.length_cons]
  have:sep.length * r.length≤sep.length * (r.length+1):=Nat.mul_le_mul_left _ (by omega)
  omega
structure NdF (x:Nd):Prop where
 text:Lib.validD x.text=true∧x.text.length≤4096
 n0 : -999≤x.n
 n1:x.n≤999
 keys:∀ k∈x.keys,jJ k
 num:x.op=2→x.n=4→yO x.num=true
theorem zEM:∀ i:Fin 6, ∀ w∈zI i.val,Lib.validD w=true∧w.length≤3:=by
 intro i w hw
 have h1:∀ i:Fin 6, ∀ w∈zI i.val,(w.all fun b=>decide (b.toNat<128))=true∧w.length≤3:=by decide
 obtain ⟨h2,h3⟩:=h1 i w hw
 exact ⟨qDV fun b hb=>by simpa using List.all_eq_true.1 h2 b hb,h3⟩
theorem qUH {x:Nd} (h:NdOK x):NdF x:=by
 have v0:Lib.validD []=true∧([]:List UInt8).length≤4096:=⟨rfl,by simp⟩
 have k0:∀ k∈([]:List (List UInt8)),jJ k:=fun k hk=>by cases hk
 cases h with
 | lit n l h=>exact ⟨v0,by simp; omega,by simp; omega,k0,fun _ h=>by simp at h; omega⟩
 | num d l h=>exact ⟨v0,by simp,by simp,k0,fun _ _=>h⟩
 | txt s l h=>exact ⟨h,by simp,by simp,k0,fun _ h=>by simp at h⟩
 | plain o l h=>exact ⟨v0,by simp,by simp,k0,fun _ h=>by simp at h⟩
 | name o w l h hw=>exact ⟨qGY hw,by simp,by simp,k0,fun _ h=>by simp at h⟩
 | key s l h=>exact ⟨h,by simp,by simp,k0,fun _ h=>by simp at h⟩
 | at_ n l h1 h2=>exact ⟨v0,h1,h2,k0,fun h=>by simp at h⟩
 | obj ks l h hn=>exact ⟨v0,by simp,by simp,h,fun _ h=>by simp at h⟩
 | two i w l hi h=>have:=zEM ⟨i,by omega⟩ w h; exact ⟨⟨this.1,by simp only; omega⟩,by simp,by simp,k0,fun _ h=>by simp at h⟩
 | lim n l h1 h2=>exact ⟨v0,by simp only; omega,h2,k0,fun h=>by simp at h⟩
 | call1 w l h=>exact ⟨qGY (qEP (.inl h)),by simp,by simp,k0,fun _ h=>by simp at h⟩
 | call2 w k l h hk=>exact ⟨qGY (qEP (.inr h)),by simp,by simp,fun k' h'=>by simp at h'; subst h'; exact hk,fun _ h=>by simp at h⟩
theorem zIL {p:Prop} [Decidable p] {a b:List UInt8} {n:Nat} (ha:a.length≤n) (hb:b.length≤n):(if p then a else b).length≤n:=by split <;> assumption
theorem zDX {x:Nd} (h:NdF x):(yQ x).length≤4200:=by
 have h1:=h.text.2
 have h2:=Lib.itoa_length_le x.n (by have:=h.n0; omega) (by have:=h.n1; omega)
 unfold yQ
 repeat' (refine zIL ?_ ?_)
 all_goals (simp <;> omega)
theorem zLB {x:Nd} (h:NdF x) (h2:x.op=2):(qBB x).length≤25000:=by
 have h1:=h.text.2
 have hq:=qLV x.text
 unfold qBB
 (repeat' split)
 ·simp
 ·simp
 ·simp
 ·rename_i c; have:=zNL (h.num h2 c); omega
 omega
theorem qUL:∀ (ks vs:List (List UInt8)),(∀ k∈ks,jJ k)→tot (vG ks vs)≤tot vs+25000 * vs.length
 | [],vs,_=>by simp [vG]
 | k::ks,[],_=>by simp [vG]
 | k::ks,v::vs,h=>by
  have h1:=qUL ks vs fun k hk=>h k (by simp [hk])
  have h2:=qLV k
  have h3:=(h k (by simp)).2
  have e:vG (k::ks) (v::vs)=(zL k++[58]++v)::vG ks vs:=rfl
  rw [e]
  simp; omega
theorem zEG {x:Nd} (h:NdF x) (ks:List (List UInt8)):(Lib.join (vG x.keys ks) [44]).length≤tot ks+26000 * ks.length:=by
 have h1:=qZD [44] (vG x.keys ks)
 have h2:=qUL x.keys ks h.keys
 have h3:(vG x.keys ks).length≤ks.length:=by simp [vG]; omega
 simp only [List.length_singleton,Nat.one_mul] at h1
 omega
theorem zDD {x:Nd} (h:NdF x) (ks:List (List UInt8)):(wP x ks).length≤30000+tot ks+30000 * ks.length:=by
 have h1:=h.text.2
 have h2:=Lib.itoa_length_le x.n (by have:=h.n0; omega) (by have:=h.n1; omega)
 have h3:=zDX h
 have hf:=qRS (yQ x) ks (zR 80 (yQ x)).length
 have hq:=qLV x.text
 have hm:=zEG h ks
 have hj:=qZD [] ks
 have hk:(zL (x.keys.getD 0 [])).length≤25000:=by
  have a:=qLV (x.keys.getD 0 [])
  have b:(x.keys.getD 0 []).length≤4096:=by
   cases e:x.keys with
   | nil=>simp
   | cons k l=>simp; exact (h.keys k (by rw [e]; simp)).2
  omega
 unfold wP
 split
 ·simp; omega
 split
 ·have:=zLB h ‹_›; omega
 split
 ·simp; omega
 split
 ·simp at hj ⊢; omega
 split
 ·unfold uY; simp at hm ⊢; omega
 split
 ·split
  ·simp at hk ⊢; omega
  omega
 split
 ·rw [List.length_append]; unfold yM; omega
 split
 ·rw [List.length_append]; unfold yM; simp; omega
 unfold yM; omega
theorem qHO:∀ ts:List Tr,(∀ t∈ts,t.text.length+30000≤60000 * t.size)→tot (Tr.textL ts)+30000 * (Tr.textL ts).length≤60000 * Tr.sizeL ts
 | [],_=>by simp [Tr.textL,Tr.sizeL]
 | t::ts,h=>by
  have h1:=h t (by simp)
  have h2:=qHO ts fun u hu=>h u (by simp [hu])
  simp only [Tr.textL,Tr.sizeL,zDB,List.length_cons]; omega
theorem qSW:∀ t:Tr,t.may→t.text.length+30000≤60000 * t.size:=by
 refine Tr.ind fun x ts ih hm => ?_
 cases hm with
 | mk _ _ hx ho hk =>
 have h1:=qHO ts fun t ht=>ih t ht (hk t ht)
 have h2:=zDD (qUH hx) (Tr.textL ts)
 simp only [Tr.text,Tr.size]; omega
theorem qOS:∀ ts:List Tr,(Tr.textL ts).length=ts.length
 | []=>rfl
 | t::ts=>by simp only [Tr.textL,List.length_cons,qOS ts]
theorem vS (o n:Int) (w:List UInt8) (q:Dc) (ks:List (List UInt8)) (l:List Int):yQ ⟨o,n,w,q,ks,l⟩=yQ ⟨o,n,w,q,ks,[]⟩:=rfl
theorem zHM {x:Nd} {k:Nat} (h:NdOK x) (ho:zC x k=true) (h1:x.op≠1) (h2:x.op≠2) (h3:x.op≠3) (h9:x.op≠9) (h10:x.op≠10) (h18:x.op≠18):(zR 80 (yQ x)).length≤k+1:=by
 rw [uU]
 cases h with
 | lit n l h=>exact absurd rfl h2
 | num d l h=>exact absurd rfl h2
 | txt s l h=>exact absurd rfl h2
 | plain o l h =>
  have hk:zC ⟨o,0,[],d0,[],l⟩ k=true:=ho
  rcases h with rfl | rfl | rfl | rfl | rfl | rfl | rfl | rfl | rfl | rfl
  ·exact absurd rfl h1
  ·obtain rfl:k=1:=by simpa [zC] using ho
   rw [vS]; decide +kernel
  ·obtain rfl:k=2:=by simpa [zC] using ho
   rw [vS]; decide +kernel
  ·obtain rfl:k=2:=by simpa [zC] using ho
   rw [vS]; decide +kernel
  ·exact absurd rfl h9
  ·obtain rfl:k=3:=by simpa [zC] using ho
   rw [vS]; decide +kernel
  ·obtain rfl:k=1:=by simpa [zC] using ho
   rw [vS]; decide +kernel
  ·obtain rfl:k=1:=by simpa [zC] using ho
   rw [vS]; decide +kernel
  ·have:(yQ ⟨19,0,[],d0,[],[]⟩).count 80=0:=by decide +kernel
   rw [vS,this]; omega
  obtain rfl:k=1:=by simpa [zC] using ho
  rw [vS]; decide +kernel
 | name o w l h hw =>
  have hn:w.count 80=0:=List.count_eq_zero.2 (qMD hw)
  rcases h with rfl | rfl | rfl
  ·exact absurd rfl h3
  ·obtain rfl:k=3:=by simpa [zC] using ho
   simp [yQ,List.count_append,List.count_cons,hn]
  obtain rfl:k=2:=by simpa [zC] using ho
  simp [yQ,List.count_append,List.count_cons,hn]
 | key s l h =>
  obtain rfl:k=1:=by simpa [zC] using ho
  rw [show yQ ⟨4,0,s,d0,[],l⟩=[40,80,41,46] from rfl]; decide +kernel
 | at_ n l h1 h2 =>
  obtain rfl:k=1:=by simpa [zC] using ho
  rw [show yQ ⟨5,n,[],d0,[],l⟩=[40,80,41,91] from rfl]; decide +kernel
 | obj ks l h hn=>exact absurd rfl h10
 | two i w l hi h =>
  have hn:w.count 80=0:=List.count_eq_zero.2 (qHN ⟨i,by omega⟩ hi.1 w h).2.2.2.1
  obtain rfl:k=2:=by simpa [zC] using ho
  simp [yQ,List.count_append,List.count_cons,hn]
 | lim n l k1 k2 =>
  have hn:(Lib.itoa n).count 80=0:=List.count_eq_zero.2 (qUT k1 k2)
  obtain rfl:k=1:=by simpa [zC] using ho
  simp [yQ,List.count_append,List.count_cons,hn]
 | call1 w l h=>exact absurd rfl h18
 | call2 w k l h hk=>exact absurd rfl h18
theorem zLU (hI:∀ n:Int,AFn Tryz.prog G 29 [.int .i64 n] (.str (Lib.itoa n))) {x:Nd} {ts:List Tr} (hm:(Tr.mk x ts).may) (hs:(Tr.mk x ts).size≤400) (b:Nat):WrOK G { x with kids:=Tr.ends b ts } (Tr.textL ts):=by
 cases hm with
 | mk _ _ hx ho hk =>
 have hf:=qUH hx
 have hz:(Tr.mk x ts).size=Tr.sizeL ts+1:=by simp [Tr.size]
 rw [hz] at hs
 have hst:=qHO ts fun t ht=>qSW t (hk t ht)
 have hl:=qOS ts
 have h1:=hf.text
 have h0:=hf.n0
 have hn1:=hf.n1
 have hle:=Lib.itoa_length_le x.n (by omega) (by omega)
 have hkm:∀ k∈Tr.textL ts,k.length≤60000000:=fun k h=>by have:=qYH h; omega
 have hp:=zDX hf
 have hpe:yQ { x with kids:=Tr.ends b ts }=yQ x:=rfl
 have hce:qBB { x with kids:=Tr.ends b ts }=qBB x:=rfl
 refine ⟨?_,by omega,fun h2 => ?_,fun h9=>⟨qZU _ _ (by omega) ?_, ?_⟩,fun h10 => ?_,fun _ key hkey=>⟨qDZ _ (hf.keys key (List.mem_of_getElem? hkey)).1 (by have:=(hf.keys key (List.mem_of_getElem? hkey)).2; omega), ?_⟩,fun g1 g2 g3 g9 g10 g18=>⟨?_, ?_, ?_⟩,fun _=>⟨qDZ _ h1.1 (by have:=h1.2; simp only; omega), ?_⟩,fun _=>⟨hI _,by simp only; omega⟩,by have:=h1.2; simp only; omega⟩
 ·simp only [Tr.ends_len]; exact hl
 ·exact qQC _ (fun h4=>hf.num h2 h4) h1.1 (by have:=h1.2; simp only; omega)
 ·have:=qZD [] (Tr.textL ts); simp at this; omega
 ·have:=qZD [] (Tr.textL ts); simp at this; omega
 ·have hkl:x.keys.length=ts.length:=by
   have h10':x.op=10:=h10
   have:zC x ts.length=true:=ho
   unfold zC at this
   simp only [h10'] at this
   simp at this
   exact this.symm
  have hj:=zEG hf (Tr.textL ts)
  refine qUK _ _ (by simp only; omega) (fun key h=>⟨(hf.keys key h).1,by have:=(hf.keys key h).2; omega⟩) (by omega) hkm (by simp only; omega) fun key h => ?_
  have:=qLV key
  have:=(hf.keys key h).2
  omega
 ·have:=qLV key
  have:=(hf.keys key (List.mem_of_getElem? hkey)).2
  omega
 ·exact qQZ _ hI (by have:=h1.2; simp only; omega) (by simp only; omega) (by simp only; omega)
 ·rw [hpe]
  refine qNA _ _ (by rw [hl]; exact zHM hx ho g1 g2 g3 g9 g10 g18) (by omega) (fun k _=>by have:=qRS (yQ x) (Tr.textL ts) k; omega) hkm fun k h => ?_
  have:=qYH h
  have:=qHZ 80 (yQ x)
  omega
 ·rw [hpe]
  have:=qRS (yQ x) (Tr.textL ts) (zR 80 (yQ x)).length
  unfold yM; omega
 have:=qLV x.text
 have:=h1.2
 simp only; omega
theorem qVJ:∀ (ts:List Tr) (b i:Nat) (k:Int) (s:List UInt8),(Tr.ends b ts)[i]?=some k→(Tr.textL ts)[i]?=some s→∃ t∈ts, ∃ L R:List Nd,s=t.text∧Tr.flatL b ts=L++t.flat (b+L.length)++R∧k=((b+L.length+t.size-1:Nat):Int)
 | [],b,i,k,s,h,_=>by simp [Tr.ends] at h
 | t::ts,b,0,k,s,h,g=>by
  have:=Tr.size_pos t
  simp only [Tr.ends,List.getElem?_cons_zero,Option.some.injEq] at h
  simp only [Tr.textL,List.getElem?_cons_zero,Option.some.injEq] at g
  exact ⟨t,by simp,[],Tr.flatL (b+t.size) ts,g.symm,by simp [Tr.flatL],by rw [← h]; simp only [List.length_nil]; omega⟩
 | t::ts,b,i+1,k,s,h,g=>by
  simp only [Tr.ends,List.getElem?_cons_succ] at h
  simp only [Tr.textL,List.getElem?_cons_succ] at g
  obtain ⟨u,h1,L,R,h2,h3,h4⟩:=qVJ ts (b+t.size) i k s h g
  refine ⟨u,by simp [h1],t.flat b++L,R,h2, ?_, ?_⟩
  ·rw [List.length_append,Tr.flat_len,← Nat.add_assoc]
   simp only [Tr.flatL,h3,List.append_assoc]
  rw [h4,List.length_append,Tr.flat_len]; omega
theorem zLV (hI:∀ n:Int,AFn Tryz.prog G 29 [.int .i64 n] (.str (Lib.itoa n))):∀ t:Tr,t.may→t.size≤400→∀ (l L R:List Nd),l=L++t.flat L.length++R→AFn Tryz.prog G 13 [.sl 8 (l.map Nd.enc),.int .i64 ((L.length+t.size-1:Nat):Int)] (.str t.text):=by
 refine Tr.ind fun x ts ih hm hs l L R hl => ?_
 have hw:=zLU (G:=G) hI hm hs L.length
 cases hm with
 | mk _ _ hx ho hk =>
 have hz:(Tr.mk x ts).size=Tr.sizeL ts+1:=by simp [Tr.size]
 have hg:l[L.length+(Tr.mk x ts).size-1]?=some { x with kids:=Tr.ends L.length ts }:=by
  rw [hl,hz]
  simp only [Tr.flat]
  rw [show L.length+(Tr.sizeL ts+1)-1=(L++Tr.flatL L.length ts).length by rw [List.length_append,Tr.flatL_len]; omega]
  rw [show L++(Tr.flatL L.length ts++[{ x with kids:=Tr.ends L.length ts }])++R=(L++Tr.flatL L.length ts)++({ x with kids:=Tr.ends L.length ts }::R) by simp]
  rw [List.getElem?_append_right (Nat.le_refl _),Nat.sub_self]
  rfl
 have:=qGA (G:=G) l (L.length+(Tr.mk x ts).size-1) { x with kids:=Tr.ends L.length ts } (Tr.textL ts) hg hw fun i k s h1 h2=>by
  obtain ⟨t,ht,L',R',e1,e2,e3⟩:=qVJ ts L.length i k s h1 h2
  have hsz:=qTI ts t ht
  have:=ih t ht (hk t ht) (by omega) l (L++L') (R'++([{ x with kids:=Tr.ends L.length ts }]++R)) (by
   rw [hl,List.length_append]
   simp only [Tr.flat,e2,List.append_assoc])
  rw [List.length_append] at this
  rw [e1,e3]
  exact this
 rw [zAA] at this
 simpa only [Tr.text] using this
theorem qXU (hI:∀ n:Int,AFn Tryz.prog G 29 [.int .i64 n] (.str (Lib.itoa n))) {t:Tr} (hm:t.may) (hs:t.size≤400):AFn Tryz.prog G 8 [.sl 8 ((t.flat 0).map Nd.enc)] (.str t.text):=by
 have hp:=Tr.size_pos t
 have hl:=Tr.flat_len t 0
 have:=zLV (G:=G) hI t hm hs (t.flat 0) [] [] (by simp)
 refine qJI (t.flat 0) t.text (by omega) (by omega) ?_
 rw [hl]
 simpa using this
end Go.Proofs.YtbhhphabggcacaaGreatDoor
