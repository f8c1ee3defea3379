import Derived.Test.YtgcbapchinideaaGreatDoorK1
import Derived.Test.YtgcbapchinideaaGreatDoorSShelf5
import Derived.Lib.IndexMore
import Derived.Lib.Join
namespace Go.Proofs.YtgcbapchinideaaGreatDoor
open Sy Go
set_option maxRecDepth 100000
set_option linter.unusedSimpArgs false
set_option linter.unusedVariables false
variable {G:qJ}
def qAF (s sep:List UInt8):List (List UInt8):=Lib.splitK sep 0 (Lib.count s sep) s
theorem vM {sep:List UInt8} (hs:sep≠[]):∀ (k:Nat) (s:List UInt8),Lib.join (Lib.splitK sep 0 k s) sep=s∧Lib.splitK sep 0 k s≠[]∧(Lib.splitK sep 0 k s).length≤s.length+1∧∀ p∈Lib.splitK sep 0 k s,p.length≤s.length
 | 0,s=>⟨by simp [Lib.splitK,Lib.join_one],by simp [Lib.splitK],by simp [Lib.splitK],by simp [Lib.splitK]⟩
 | k+1,s=>by
  unfold Lib.splitK
  split
  ·exact ⟨by simp [Lib.join_one],by simp,by simp,by simp⟩
  rename_i h
  rcases Lib.index_spec s sep with ⟨h1,_⟩ | ⟨i,h1,h2,h3,_⟩
  ·exact absurd (beq_iff_eq.2 h1) h
  have e:(Lib.index s sep).toNat=i:=by omega
  rw [e,Nat.add_zero]
  obtain ⟨i1,i2,i3,i4⟩:=vM hs k (s.drop (i+sep.length))
  have hlen:0<sep.length:=List.length_pos_iff.2 hs
  have hp:s=s.take i++(sep++s.drop (i+sep.length)):=by
   unfold Lib.occAt at h3
   obtain ⟨t,ht⟩:=List.isPrefixOf_iff_prefix.1 h3
   have hd:s.drop (i+sep.length)=t:=by rw [← List.drop_drop,← ht,List.drop_left]
   rw [hd,ht,List.take_append_drop]
  refine ⟨?_,by simp, ?_, ?_⟩
  ·generalize Lib.splitK sep 0 k (s.drop (i+sep.length))=R at *
   obtain ⟨x,r,rfl⟩:∃ x r,R=x::r:=by cases R with
    | nil=>exact absurd rfl i2
    | cons x r=>exact ⟨x,r,rfl⟩
   rw [Lib.join_cons] at i1 ⊢
   conv=>rhs; rw [hp,← i1]
   simp [Lib.joinTail]
  ·rw [List.length_cons]
   rw [List.length_drop] at i3
   have:=Lib.index_room s sep (by omega)
   omega
  intro p hm
  rcases List.mem_cons.1 hm with rfl | hm
  ·simp; omega
  have:=i4 p hm
  rw [List.length_drop] at this; omega
theorem qKG {s sep:List UInt8} (hs:sep≠[]):Lib.join (qAF s sep) sep=s∧qAF s sep≠[]∧(qAF s sep).length≤s.length+1∧∀ p∈qAF s sep,p.length≤s.length:=vM hs _ s
def qJR (g:Nat) (G:qJ):Prop:=∃ m:Int,G g=some [.int .i64 m]
theorem qRT (hG:qJR 0 G) (s sep:List UInt8) (h1:sep≠[]) (hs:s.length≤1000000):AFn Tryz.prog G 75 [.str s,.str sep] (.sl 1 ((qAF s sep).map PD.str)):=by
 refine ⟨wV Tryz.func75 (by kernel_rfl) rfl,fun M w vs hg hmem hsz hrd => ?_⟩
 obtain ⟨a,b,rfl,rfl,rfl⟩:=qUO hsz hrd
 obtain ⟨m,hm⟩:=hG
 obtain ⟨g1,g2⟩:=hg.1 _ _ hm
 obtain ⟨u,hu,_⟩:=g1 0 _ rfl
 have hur:=g2 0 _ u rfl hu
 cases hur with
 | int k1 k2 =>
 have hcell:=hmem _ _ _ hu
 have hb:1≤b.size:=by
  have:0<b.data.toList.length:=List.length_pos_iff.2 h1
  simp at this; omega
 have ha:a.size≤1000000:=by simpa using hs
 refine (Any.strings_Split { Tryz.laysM146 with } Tryz.laysM146.i9 a b m w (by omega) hcell hb).mono ?_
 rintro e w' ⟨rfl,rfl⟩
 have hlen:=Lib.splitB_all b hb 0 (Lib.countB a b) a rfl
 have hdata:=Lib.splitB_data b 0 (Lib.countB a b) a
 obtain ⟨_,_,j3,j4⟩:=vM h1 (Lib.countB a b) a.data.toList
 have hS:qAF a.data.toList b.data.toList=(Lib.splitB b 0 (Lib.countB a b) a).map (·.data.toList):=hdata.symm
 rw [← hdata] at j3 j4
 rw [hS]
 generalize Lib.splitB b 0 (Lib.countB a b) a=ps at *
 rw [List.length_map] at j3
 have ha2:a.data.toList.length≤1000000:=hs
 have hold:∀ b' o v,M b' o=some v→b'<w.heap.size:=fun b' o v h=>yO (hmem b' o v h)
 have hnew:∀ j,(w.alloc (.cells (ps.map Value.string).toArray (Tryz.laysM146_ren.t 9))).cell? ⟨w.heap.size,j,none⟩=(ps.map Value.string)[j]?:=fun j=>by
  rw [World.cell?_alloc_new]; simp
 refine ⟨_,fun b' o=>if b'=w.heap.size then (ps.map Value.string)[o]? else M b' o,rfl, ?_, ?_, ?_, ?_,(RowKit.Below.refl _ w).alloc (Nat.le_refl _) _⟩
 ·refine Rd.sl w.heap.size 0 (by simp; omega) (Nat.le_refl _) (by unfold maxLen; omega) (fun _=>rfl) ?_ ?_ ?_
  ·intro i e he
   rw [List.getElem?_map,Option.map_eq_some_iff] at he
   obtain ⟨x,_,rfl⟩:=he; rfl
  ·intro i e j he hj
   rw [List.map_map,List.getElem?_map,Option.map_eq_some_iff] at he
   obtain ⟨x,hx,rfl⟩:=he
   obtain rfl:j=0:=by omega
   refine ⟨.string x, ?_,rfl⟩
   rw [if_pos rfl]
   simp [hx]
  intro i e j d u he hj hu
  rw [List.map_map,List.getElem?_map,Option.map_eq_some_iff] at he
  obtain ⟨x,hx,rfl⟩:=he
  match j,hj with
  | 0,hj =>
   rw [if_pos rfl] at hu
   simp [hx] at hu
   subst hu
   cases hj
   refine .str rfl ?_
   have:x.data.toList.length≤a.data.toList.length:=j4 _ (List.mem_map.2 ⟨x,List.mem_of_getElem? hx,rfl⟩)
   show x.data.toList.length≤maxLen
   unfold maxLen; omega
  | j+1,hj=>exact absurd hj (by simp [PD.cells])
 ·intro b' o v h
  change (if b'=w.heap.size then (ps.map Value.string)[o]? else M b' o)=some v at h
  by_cases hb':b'=w.heap.size
  ·subst hb'
   rw [if_pos rfl] at h
   rw [hnew]; exact h
  rw [if_neg hb'] at h
  rw [World.cell?_alloc_lt _ _ _ (hold b' o v h)]
  exact hmem b' o v h
 ·intro b' o v h
  show (if b'=w.heap.size then (ps.map Value.string)[o]? else M b' o)=some v
  rw [if_neg (by have:=hold b' o v h; omega)]; exact h
 intro b' o h
 show (if b'=w.heap.size then (ps.map Value.string)[o]? else M b' o)=_
 rw [if_neg (by omega)]
theorem qBS (s:List UInt8) (hs:s.length≤1000000):AFn Tryz.prog G 96 [.str s] (.int .i64 (Lib.runeCountL s)):=by
 refine AFn.of_calls (wV Tryz.func96 (by kernel_rfl) rfl) fun M w vs hg hmem hsz hrd => ?_
 obtain ⟨b,rfl,rfl,hm⟩:=qPW hsz hrd
 have hb:b.size≤1000000:=by simpa using hs
 refine (Any.utf8_RuneCountInString Tryz.lays195 b w (by omega)).mono ?_
 rintro e w' ⟨rfl,pos,rfl⟩
 have hle:=Lib.runeCountFrom_le b b.size 0
 have e:Lib.runeCountL b.data.toList=Lib.runeCount b:=rfl
 rw [e]
 refine ⟨_,rfl,.int (by rw [wY]; simp only [wN]; omega) (by rw [wR]; simp only [wO]; unfold Lib.runeCount; omega), ?_⟩
 exact (RowKit.Below.refl _ w).alloc (Nat.le_refl _) _
end Go.Proofs.YtgcbapchinideaaGreatDoor
