import Derived.Test.YtbhhphabggcacaaGreatDoorK1
namespace Go.Proofs.YtbhhphabggcacaaGreatDoor
open Sy Go
set_option maxRecDepth 100000
set_option maxHeartbeats 1000000
set_option linter.unusedSimpArgs false
set_option linter.unusedVariables false
inductive Tr where
 | mk (x:Nd) (ts:List Tr)
mutual
def Tr.size:Tr→Nat
 | .mk _ ts=>Tr.sizeL ts+1
def Tr.sizeL:List Tr→Nat
 | []=>0
 | t::ts=>t.size+Tr.sizeL ts
end
def Tr.ends:Nat→List Tr→List Int
 | _,[]=>[]
 | b,t::ts=>(((b+t.size:Nat):Int)-1)::Tr.ends (b+t.size) ts
mutual
def Tr.flat:Nat→Tr→List Nd
 | b,.mk x ts=>Tr.flatL b ts++[{ x with kids:=Tr.ends b ts }]
def Tr.flatL:Nat→List Tr→List Nd
 | _,[]=>[]
 | b,t::ts=>t.flat b++Tr.flatL (b+t.size) ts
end
def zC (x:Nd) (k:Nat):Bool :=
 (decide (1≤x.op∧x.op≤20) && decide (x.op=10∨x.keys.length≤1)) &&
 (if x.op=4∨x.op=5∨x.op=6∨x.op=13∨x.op=14∨x.op=17∨x.op=20 then decide (k=1)
 else if x.op=7∨x.op=8∨x.op=11∨x.op=16 then decide (k=2)
 else if x.op=12∨x.op=15 then decide (k=3)
 else if x.op=10 then decide (k=x.keys.length)
 else if x.op=9 then decide (k≤1)
 else decide (k=0))
theorem zHN {x:Nd} {k:Nat} (h:zC x k=true):x.op=10∧k=x.keys.length∨x.keys.length≤1:=by
 unfold zC at h
 simp only [Bool.and_eq_true,decide_eq_true_eq] at h
 obtain ⟨⟨-, h1⟩,h2⟩:=h
 rcases h1 with h1 | h1
 ·rw [h1] at h2; simp at h2; exact .inl ⟨h1,h2⟩
 exact .inr h1
mutual
def Tr.ok:Tr→Bool
 | .mk x ts=>zC x ts.length && Tr.okL ts
def Tr.okL:List Tr→Bool
 | []=>true
 | t::ts=>t.ok && Tr.okL ts
end
theorem Tr.size_pos:∀ t:Tr,1≤t.size
 | .mk x ts=>by simp [Tr.size]
mutual
theorem Tr.flat_len:∀ (t:Tr) (b:Nat),(t.flat b).length=t.size
 | .mk x ts,b=>by simp only [Tr.flat,Tr.size,List.length_append,List.length_singleton,Tr.flatL_len ts b]
theorem Tr.flatL_len:∀ (ts:List Tr) (b:Nat),(Tr.flatL b ts).length=Tr.sizeL ts
 | [],b=>rfl
 | t::ts,b=>by simp only [Tr.flatL,Tr.sizeL,List.length_append,Tr.flat_len t b,Tr.flatL_len ts (b+t.size)]
end
theorem Tr.ends_len:∀ (ts:List Tr) (b:Nat),(Tr.ends b ts).length=ts.length
 | [],b=>rfl
 | t::ts,b=>by simp only [Tr.ends,List.length_cons,Tr.ends_len ts]
theorem Tr.ends_app:∀ (ts us:List Tr) (b:Nat),Tr.ends b (ts++us)=Tr.ends b ts++Tr.ends (b+Tr.sizeL ts) us
 | [],us,b=>by simp [Tr.ends,Tr.sizeL]
 | t::ts,us,b=>by simp only [List.cons_append,Tr.ends,Tr.ends_app ts us,Tr.sizeL,Nat.add_assoc]
theorem Tr.flatL_app:∀ (ts us:List Tr) (b:Nat),Tr.flatL b (ts++us)=Tr.flatL b ts++Tr.flatL (b+Tr.sizeL ts) us
 | [],us,b=>by simp [Tr.flatL,Tr.sizeL]
 | t::ts,us,b=>by simp only [List.cons_append,Tr.flatL,Tr.flatL_app ts us,Tr.sizeL,Nat.add_assoc,List.append_assoc]
theorem Tr.sizeL_app:∀ (ts us:List Tr),Tr.sizeL (ts++us)=Tr.sizeL ts+Tr.sizeL us
 | [],us=>by simp [Tr.sizeL]
 | t::ts,us=>by simp only [List.cons_append,Tr.sizeL,Tr.sizeL_app ts us,Nat.add_assoc]
theorem Tr.okL_app:∀ (ts us:List Tr),Tr.okL (ts++us)=(Tr.okL ts && Tr.okL us)
 | [],us=>by simp [Tr.okL]
 | t::ts,us=>by simp only [List.cons_append,Tr.okL,Tr.okL_app ts us,Bool.and_assoc]
def qHA (l:List Nd):List Int:=l.flatMap fun x=>x.kids
theorem qPS (l m:List Nd):qHA (l++m)=qHA l++qHA m:=List.flatMap_append
mutual
theorem Tr.count:∀ (t:Tr) (b:Nat) (j:Int),(qHA (t.flat b)).count j=if (b:Int)≤j∧j+1<b+t.size then 1 else 0
 | .mk x ts,b,j=>by
  have h:=Tr.countL ts b j
  simp only [Tr.flat,qPS,List.count_append]
  rw [show qHA [{ x with kids:=Tr.ends b ts }]=Tr.ends b ts by simp [qHA],h]
  have hsz:(Tr.mk x ts).size=Tr.sizeL ts+1:=by simp [Tr.size]
  by_cases c:(b:Int)≤j∧j<b+Tr.sizeL ts
  ·rw [if_pos c,if_pos (by rw [hsz]; omega)]
  rw [if_neg c,if_neg (by rw [hsz]; omega)]
theorem Tr.countL:∀ (ts:List Tr) (b:Nat) (j:Int),(qHA (Tr.flatL b ts)).count j+(Tr.ends b ts).count j=if (b:Int)≤j∧j<b+Tr.sizeL ts then 1 else 0
 | [],b,j=>by
  rw [if_neg (by simp only [Tr.sizeL]; omega)]; rfl
 | t::ts,b,j=>by
  have h1:=Tr.count t b j
  have h2:=Tr.countL ts (b+t.size) j
  have hp:=Tr.size_pos t
  have hsz:Tr.sizeL (t::ts)=t.size+Tr.sizeL ts:=by simp [Tr.sizeL]
  rw [show Tr.flatL b (t::ts)=t.flat b++Tr.flatL (b+t.size) ts by simp [Tr.flatL],show Tr.ends b (t::ts)=(((b+t.size:Nat):Int)-1)::Tr.ends (b+t.size) ts by simp [Tr.ends],hsz,qPS,List.count_append,List.count_cons,h1]
  generalize (qHA (Tr.flatL (b+t.size) ts)).count j=A at *
  generalize (Tr.ends (b+t.size) ts).count j=B at *
  have e:(if ((((b+t.size:Nat):Int)-1) == j)=true then 1 else 0)=if ((b+t.size:Nat):Int)-1=j then 1 else 0:=by simp
  rw [e]
  clear e h1
  split at h2 <;> split <;> split <;> split <;> omega
end
def qRF (i:Nat) (x:Nd):Prop:=(∀ k∈x.kids,0≤k∧k<i)∧x.kids.Pairwise (· < ·)∧zC x x.kids.length=true
theorem Tr.ends_mem:∀ (ts:List Tr) (b:Nat), ∀ k∈Tr.ends b ts,(b:Int)≤k∧k<b+Tr.sizeL ts
 | [],b,k,h=>by simp [Tr.ends] at h
 | t::ts,b,k,h=>by
  have hp:=Tr.size_pos t
  simp only [Tr.ends,List.mem_cons] at h
  simp only [Tr.sizeL]
  rcases h with h | h
  ·omega
  have:=Tr.ends_mem ts _ k h; omega
theorem Tr.ends_up:∀ (ts:List Tr) (b:Nat),(Tr.ends b ts).Pairwise (· < ·)
 | [],b=>by simp [Tr.ends]
 | t::ts,b=>by
  simp only [Tr.ends,List.pairwise_cons]
  refine ⟨fun k h => ?_,Tr.ends_up ts _⟩
  have:=Tr.ends_mem ts _ k h; omega
mutual
theorem Tr.nodes:∀ (t:Tr) (b:Nat),t.ok=true→∀ (i:Nat) x,(t.flat b)[i]?=some x→qRF (b+i) x
 | .mk y ts,b,h,i,x,hx=>by
  simp only [Tr.ok,Bool.and_eq_true] at h
  simp only [Tr.flat] at hx
  have hl:=Tr.flatL_len ts b
  by_cases hi:i<Tr.sizeL ts
  ·rw [List.getElem?_append_left (by omega)] at hx
   exact Tr.nodesL ts b h.2 i x hx
  rw [List.getElem?_append_right (by omega)] at hx
  obtain ⟨h0,h1⟩:=List.getElem?_eq_some_iff.1 hx
  simp only [List.length_singleton] at h0
  obtain rfl:i=Tr.sizeL ts:=by omega
  simp only [List.getElem_singleton] at h1
  subst h1
  refine ⟨fun k hk => ?_,Tr.ends_up ts b, ?_⟩
  ·have:=Tr.ends_mem ts b k hk; omega
  simp only [Tr.ends_len]; exact h.1
theorem Tr.nodesL:∀ (ts:List Tr) (b:Nat),Tr.okL ts=true→∀ (i:Nat) x,(Tr.flatL b ts)[i]?=some x→qRF (b+i) x
 | [],b,h,i,x,hx=>by simp [Tr.flatL] at hx
 | t::ts,b,h,i,x,hx=>by
  simp only [Tr.okL,Bool.and_eq_true] at h
  simp only [Tr.flatL] at hx
  have hl:=Tr.flat_len t b
  by_cases hi:i<t.size
  ·rw [List.getElem?_append_left (by omega)] at hx
   exact Tr.nodes t b h.1 i x hx
  rw [List.getElem?_append_right (by omega),hl] at hx
  have:=Tr.nodesL ts (b+t.size) h.2 (i-t.size) x hx
  rw [show b+t.size+(i-t.size)=b+i by omega] at this
  exact this
end
end Go.Proofs.YtbhhphabggcacaaGreatDoor
