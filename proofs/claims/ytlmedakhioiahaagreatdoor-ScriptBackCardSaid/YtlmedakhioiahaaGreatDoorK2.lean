import Derived.Test.YtlmedakhioiahaaGreatDoorK1
import Derived.Test.YtlmedakhioiahaaGreatDoorM3
import Derived.Shelf.Strings.Builder1
import Derived.Lib.MapLaws
import Derived.Lib.ValidLaws
import Derived.Shelf.Unicode.DecodeAny
namespace Go.Proofs.YtlmedakhioiahaaGreatDoor
open Sy Go
set_option maxRecDepth 100000
set_option maxHeartbeats 4000000
set_option linter.unusedSimpArgs false
set_option linter.unusedVariables false
variable {G:qO}
theorem qXD (hG:U8 G) (v:Val):AFn Tryz.prog G 37 [v.enc] (.bool (xC v)):=by
 refine AFn.introU tok Tryz.func37 (by kernel_rfl) rfl rfl ?_
 simp only [Tryz.f37,qR,List.map_cons,List.map_nil]
 have hd:=zBF (G:=G) v.num
 have hw:=qDO hG v.text
 have hk:=zAI hG v.keys
 refine rgn [] [[],[1]] ?_
 iterate 2 refine op1 tok ?_
 refine qA (rgn [] [[],[],[],[],[],[1,6,9],[],[1,3]] ?_)
 iterate 8 refine op1 tok ?_
 refine qA ?_
 refine AW.join (α:=Unit) (fun _=>True) (fun a=>⟨zR 83 [(1,.ptr 1 0),(3,.p (.bool (qBF v && qHG v)))],[],[(1,.vars 42 v.cells)],0⟩) ?_ ?_
 ·
  refine rgn [] [[],[],[1,3,13]] ?_
  iterate 3 refine op1 tok ?_
  refine qA (cnd ?_ ?_)
  ·intro h13
   try simp at h13
   refine rgz [.nilp,.bool (zY v.num)] [[],[],[],[],[1,15,18],[],[1,3]] ?_
   iterate 2 refine op1 tok ?_ (hv:=by first | with_reducible exact True.intro | (((repeat' (first | with_reducible apply And.intro | intro _)) <;> first | exact (hd) | assumption | omega | contradiction | simp_all); done) | omega | simp | (simp +contextual; omega))
   iterate 3 refine op2 tok ?_ (hv:=by first | with_reducible exact True.intro | (((repeat' (first | with_reducible apply And.intro | intro _)) <;> first | exact (hd) | assumption | omega | contradiction | simp_all); done) | omega | simp | (simp +contextual; omega))
   iterate 2 refine op1 tok ?_ (hv:=by first | with_reducible exact True.intro | (((repeat' (first | with_reducible apply And.intro | intro _)) <;> first | exact (hd) | assumption | omega | contradiction | simp_all); done) | omega | simp | (simp +contextual; omega))
   refine qA ?_
   exact ⟨(),trivial,qJ (by simp [qBF,qHG,h13]),rfl,by simp [qBF,qHG,h13],by simp [qBF,qHG,h13]⟩
  intro h13
  try simp at h13
  refine rgz [] [[],[],[],[],[],[1,21,25],[],[1,3]] ?_
  iterate 2 refine op1 tok ?_
  iterate 4 refine op2 tok ?_
  iterate 2 refine op1 tok ?_
  refine qA ?_
  exact ⟨(),trivial,qJ (by simp [qBF,qHG,h13]),rfl,by simp [qBF,qHG,h13],by simp [qBF,qHG,h13]⟩
 ·
  rintro a hI
  refine AW.join (α:=Unit) (fun _=>True) (fun a=>⟨zR 83 [(1,.ptr 1 0),(3,.p (.bool (qBF v && qHG v && qCI v)))],[],[(1,.vars 42 v.cells)],0⟩) ?_ ?_
  ·
   refine rgn [] [[],[],[1,3,29]] ?_
   iterate 3 refine op1 tok ?_
   refine qA (cnd ?_ ?_)
   ·intro h29
    try simp at h29
    refine rgz [.nilp,.bool (yV v.text)] [[],[],[],[],[1,31,34],[],[1,3]] ?_
    iterate 2 refine op1 tok ?_ (hv:=by first | with_reducible exact True.intro | (((repeat' (first | with_reducible apply And.intro | intro _)) <;> first | exact (hw) | assumption | omega | contradiction | simp_all); done) | omega | simp | (simp +contextual; omega))
    iterate 3 refine op2 tok ?_ (hv:=by first | with_reducible exact True.intro | (((repeat' (first | with_reducible apply And.intro | intro _)) <;> first | exact (hw) | assumption | omega | contradiction | simp_all); done) | omega | simp | (simp +contextual; omega))
    iterate 2 refine op1 tok ?_ (hv:=by first | with_reducible exact True.intro | (((repeat' (first | with_reducible apply And.intro | intro _)) <;> first | exact (hw) | assumption | omega | contradiction | simp_all); done) | omega | simp | (simp +contextual; omega))
    refine qA ?_
    exact ⟨(),trivial,qJ (by simp [qCI,h29]),rfl,by simp [qCI,h29],by simp [qCI,h29]⟩
   intro h29
   try simp at h29
   refine rgz [] [[],[],[],[],[1,37,40],[],[1,3]] ?_
   iterate 2 refine op1 tok ?_
   iterate 3 refine op2 tok ?_
   iterate 2 refine op1 tok ?_
   refine qA ?_
   exact ⟨(),trivial,qJ (by simp [qCI,h29]),rfl,by simp [qCI,h29],by simp [qCI,h29]⟩
  ·
   rintro a hI
   refine AW.seq (rgn [] [[],[1,3,43]] ?_)
   iterate 2 refine op1 tok ?_
   refine qA (AW.block (rgn [] [[],[1,3,43,44]] ?_))
   iterate 2 refine op1 tok ?_
   refine qA (cnd ?_ ?_)
   ·intro h44
    try simp at h44
    refine rgn [.nilp,.bool (yZ v.keys)] [[],[],[],[],[1,47,50],[],[],[],[1,47,54],[],[],[56,57],[],[],[60],[2]] ?_
    iterate 16 first | refine op1 tok ?_ (hv:=by first | with_reducible exact True.intro | (((repeat' (first | with_reducible apply And.intro | intro _)) <;> first | exact (hk) | assumption | omega | contradiction | simp_all); done) | omega | simp | (simp +contextual; omega)) | refine op2 tok ?_ (hv:=by first | with_reducible exact True.intro | (((repeat' (first | with_reducible apply And.intro | intro _)) <;> first | exact (hk) | assumption | omega | contradiction | simp_all); done) | omega | simp | (simp +contextual; omega))
    refine qA ?_
    exact AW.ret (qZ (k:=by simp [xC,qFQ,qMH,h44,Bool.and_assoc]))
   intro h44
   try simp at h44
   refine rgn [] [[],[1,3,61]] ?_
   iterate 2 refine op1 tok ?_
   refine qA (cnd ?_ ?_)
   ·intro h61
    try simp at h61
    refine rgn [] [[],[],[],[64,66],[],[],[69],[2]] ?_
    iterate 2 refine op1 tok ?_
    iterate 4 refine op2 tok ?_
    iterate 2 refine op1 tok ?_
    refine qA ?_
    exact AW.ret (qZ (k:=by simp [xC,qFQ,qMH,h44,h61,zJW]))
   intro h61
   try simp at h61
   refine AW.skip (rgn [] [[],[],[],[],[1,71,74],[],[],[1,77],[],[],[],[77,81],[],[2]] ?_)
   iterate 14 first | refine op1 tok ?_ | refine op2 tok ?_
   refine qA ?_
   exact AW.ret (qZ (k:=by simp [xC,qFQ,qMH,h44,h61,zJW]))
theorem qXS (l:List Val) (g:FuncId) (p:Val→Bool) (hg:∀ v∈l,AFn Tryz.prog G g [v.enc] (.bool (p v))):AFn Tryz.prog G 71 [.sl 9 (l.map Val.enc),.fn g] (.int .i64 (match l.findIdx? p with | some i=>(i:Int) | none => -1)):=by
 refine AFn.introU tok Tryz.func71 (by kernel_rfl) rfl rfl ?_
 simp only [Tryz.f71,qR,List.map_cons,List.map_nil]
 refine rgn [] [[0,1]] ?_
 refine op1 tok ?_
 refine qA (AW.seq (rgn [] [[],[],[0,1,7,8]] ?_))
 iterate 3 refine op1 tok ?_
 refine qA (AW.block ?_)
 refine AW.intFactU (i:=7) rfl (by decide) ?_; intro hlen; simp at hlen
 refine AW.loop (α:=Nat) (fun k=>k≤l.length∧(l.take k).all (fun v => !p v)=true) (fun k=>⟨zR 19 [(0,.p (.sl 9 (l.map Val.enc))),(1,.p (.fn g)),(7,.p (.int .i64 l.length)),(8,.p (.int .i64 k))],[],[],0⟩) (fun k=>l.length-k) (0) ⟨by omega,rfl⟩ ⟨qJ (by simp),rfl,by simp,by simp⟩ ?_
 rintro k ⟨hk,hall⟩
 refine rgn [] [[]] ?_
 refine op1 tok ?_
 refine qA (AW.seq (cnd ?_ ?_))
 ·intro h9
  try simp at h9
  obtain ⟨v,hv⟩:∃ v,l[k]?=some v:=⟨l[k],by simp [h9]⟩
  have hgv:=hg v (List.mem_of_getElem? hv)
  refine AW.skip (AW.seq (AW.block (rgn [] [[],[0,1,5,7,8]] ?_)))
  iterate 2 refine op1 tok ?_
  refine qA (rgn [v.enc,.tup [v.enc],.bool (p v)] [[],[],[],[],[],[0,1,5,7,8,16]] ?_)
  iterate 6 refine op1 tok ?_ (hv:=by first | with_reducible exact True.intro | (first | (simp [hv]; done) | (simp at hgv ⊢; exact hgv); done) | omega | simp | (simp +contextual; omega))
  refine qA (cnd ?_ ?_)
  ·intro h16
   try simp at h16
   have hf:l.findIdx? p=some k:=by
    rw [List.findIdx?_eq_some_iff_getElem]
    have h9':=h9
    refine ⟨h9, ?_,fun j hj => ?_⟩
    ·rw [List.getElem?_eq_getElem h9] at hv; cases hv; exact h16
    have:=List.all_eq_true.1 hall (l[j]'(by omega)) (List.mem_iff_getElem.2 ⟨j,by simp; omega,by simp⟩)
    simpa using this
   refine rgn [] [[],[4]] ?_
   iterate 2 refine op1 tok ?_
   refine qA ?_
   exact AW.ret (qZ (k:=by simp [hf]))
  intro h16
  try simp at h16
  refine AW.skip (rgz [] [[],[0,1,7,8]] ?_)
  iterate 2 refine op1 tok ?_
  refine qA ?_
  exact ⟨k+1,⟨by omega,by rw [List.take_add_one,hv,List.all_append,hall]; simpa using h16⟩,by omega,qJ (by simp),rfl,by simp,by simp⟩
 intro h9
 try simp at h9
 rw [List.take_of_length_le h9] at hall
 have hf:l.findIdx? p=none:=by
  rw [List.findIdx?_eq_none_iff]; intro x hx; simpa using List.all_eq_true.1 hall x hx
 refine AW.exit ?_
 simp
 refine rgn [] [[]] ?_
 refine op1 tok ?_
 refine qA ?_
 exact AW.ret (qZ (k:=by simp [hf]))
theorem qOW (l:List Val) (g:FuncId) (p:Val→Bool) (hg:∀ v∈l,AFn Tryz.prog G g [v.enc] (.bool (p v))):AFn Tryz.prog G 38 [.sl 9 (l.map Val.enc),.fn g] (.bool (l.any p)):=by
 refine AFn.introU tok Tryz.func38 (by kernel_rfl) rfl rfl ?_
 simp only [Tryz.f38,qR,List.map_cons,List.map_nil]
 have hi:=qXS l g p hg
 have ha:l.any p=decide (0≤(match l.findIdx? p with | some i=>(i:Int) | none => -1)):=by
  cases h:l.findIdx? p with
  | none=>simp; intro x hx; simpa using List.findIdx?_eq_none_iff.1 h x hx
  | some i =>
   obtain ⟨h1,h2,_⟩:=List.findIdx?_eq_some_iff_getElem.1 h
   simp; exact ⟨_,List.getElem_mem h1,h2⟩
 rw [ha]
 generalize (match l.findIdx? p with | some i=>(i:Int) | none => -1)=n at *
 refine rgn [] [[0,1]] ?_
 refine op1 tok ?_
 refine qA (rgn [.nilp,.int .i64 n] [[],[],[7],[],[4]] ?_)
 iterate 5 refine oq1 tok hi ?_
 exact qA (AW.ret qZ)
theorem zDQ (v:Val) (h:AFn Tryz.prog G 21 [v.enc] (.bool (zU v))):AFn Tryz.prog G 39 [v.enc] (.bool (!zU v)):=by
 refine AFn.introU tok Tryz.func39 (by kernel_rfl) rfl rfl ?_
 simp only [Tryz.f39,qR,List.map_cons,List.map_nil]
 refine rgn [] [[],[1]] ?_
 iterate 2 refine op1 tok ?_
 refine qA (rgn [.nilp,.bool (zU v)] [[],[],[],[2]] ?_)
 iterate 4 refine op1 tok ?_ (hv:=by first | with_reducible exact True.intro | (first | exact h | (simp at h ⊢; exact h); done) | omega | simp | (simp +contextual; omega))
 exact qA (AW.ret qZ)
theorem qXO (hG:U8 G) (v:Val) (ih:∀ k∈v.kids,AFn Tryz.prog G 21 [k.enc] (.bool (zU k))):AFn Tryz.prog G 21 [v.enc] (.bool (zU v)):=by
 refine AFn.introU tok Tryz.func21 (by kernel_rfl) rfl rfl ?_
 simp only [Tryz.f21,qR,List.map_cons,List.map_nil]
 have hp:=qXD hG v
 have hc:=qOW (G:=G) v.kids 39 (fun k => !zU k) (fun k hk=>zDQ k (ih k hk))
 have hca:v.kids.any (fun k => !zU k) = !v.kids.all zU:=by simp [List.all_eq_not_any_not]
 rw [hca] at hc
 rw [qEJ]
 refine rgn [] [[],[1]] ?_
 iterate 2 refine op1 tok ?_
 refine qA (AW.seq (rgn [.nilp,.bool (xC v)] [[],[],[],[],[],[1,6,8],[],[],[1,11],[],[],[],[],[1,16],[],[],[],[],[1,21]] ?_))
 iterate 19 first | refine op1 tok ?_ (hv:=by first | with_reducible exact True.intro | (first | ((repeat' (first | with_reducible apply And.intro | intro _)) <;> first | exact (hp) | assumption | omega | contradiction | simp_all) | (simp at hp ⊢; ((repeat' (first | with_reducible apply And.intro | intro _)) <;> first | exact (hp) | assumption | omega | contradiction | simp_all)); done) | omega | simp | (simp +contextual; omega)) | refine op2 tok ?_ (hv:=by first | with_reducible exact True.intro | (first | ((repeat' (first | with_reducible apply And.intro | intro _)) <;> first | exact (hp) | assumption | omega | contradiction | simp_all) | (simp at hp ⊢; ((repeat' (first | with_reducible apply And.intro | intro _)) <;> first | exact (hp) | assumption | omega | contradiction | simp_all)); done) | omega | simp | (simp +contextual; omega))
 refine qA (cnd ?_ ?_)
 ·intro h21
  try simp at h21
  have hno:(jW v && xC v && v.kids.all zU)=false:=by
   rcases h21 with h | h
   ·have:jW v=false:=by simp [jW]; omega
    rw [this]; rfl
   rw [h]; simp
  rw [hno]
  refine rgn [] [[]] ?_
  refine op1 tok ?_
  exact qA (AW.ret qZ)
 intro h21
 try simp at h21
 have hyes:(jW v && xC v)=true:=by
  have:jW v=true:=by simp [jW]; omega
  rw [this,h21.2]; rfl
 rw [hyes]
 refine AW.skip (rgn [.nilp,.bool (!v.kids.all zU)] [[],[],[],[25],[2]] ?_)
 iterate 5 refine oq1 tok hc ?_
 exact qA (AW.ret qZ)
theorem qVV (hG:U8 G) (v:Val):AFn Tryz.prog G 21 [v.enc] (.bool (zU v)):=Val.induct (fun v ih=>qXO hG v ih) v
def zBP (u:Bool):V:=if u then .ptr 2 0 else .p .nilp
def qAN (u:Bool) (bs:List UInt8):List (Nat × Box):=[(2,.vars 111 [zBP u,.ms 3]),(3,.row 5 1 (qH bs))]
theorem qSC:(Tryz.prog.info? 111).map (·.size)=some 2:=by kernel_rfl
theorem zBO:liesAt Tryz.prog Tryz.prog.depth 111 (2 / Tryz.prog.cellsOf 111) 0 111 1=true:=by kernel_rfl
section
set_option maxHeartbeats 1000000 in
theorem zEK (b : Nat) (w : World) (h0 : w.cell? ⟨b, 0, none⟩ = some (.pointer (some ⟨b, 0, none⟩))) :
  Calls Tryz.prog 107 #[.pointer (some ⟨b,0,none⟩)] w fun e w'=>e = .returned (.tuple #[])∧w'=w:=by
 obtain ⟨j,hj,_⟩:=Option.map_eq_some_iff.1 qSC
 go_enter Tryz.func107,Tryz.ntmps107
 go_wp2
 rw [Lib.run_neq_ptr_same w _ Tryz.underlying109 hj]
 go_wp2
 go_end0
 exact ⟨rfl,rfl⟩
set_option maxHeartbeats 1000000 in
theorem zBI (b : Nat) (w : World) (h0 : w.cell? ⟨b, 0, none⟩ = some (.pointer none)) (hsh : w.shape? b = some (111, 2)) (hfz : w.frozen? ⟨b, 0, none⟩ = false) :
  Calls Tryz.prog 107 #[.pointer (some ⟨b,0,none⟩)] w fun e w'=>e = .returned (.tuple #[])∧w'=w.setCell ⟨b,0,none⟩ (.pointer (some ⟨b,0,none⟩)):=by
 obtain ⟨j,hj,hjs⟩:=Option.map_eq_some_iff.1 qSC
 go_enter Tryz.func107,Tryz.ntmps107
 go_wp2
 rw [Lib.run_to_unsafe w ⟨b,0,none⟩ Tryz.underlying109 Tryz.underlying166 hj (by rw [hjs]; decide) hsh (Nat.zero_lt_succ 1)]
 simp only [Result.andThen]
 rw [Oper.upon_value]
 go_wp2
 rw [run_callFunc_extern Tryz.func140 (by kernel_rfl) (by kernel_rfl) (by kernel_rfl) (e:=Extern.AbiNoEscape.same) (by kernel_rfl)]
 rw [Lib.run_noEscape]
 simp only [Result.andThen]
 rw [Oper.upon_value]
 go_wp2
 rw [Lib.run_from_unsafe w ⟨b,0,none⟩ Tryz.underlying166 Tryz.underlying109 hj hsh zBO]
 simp only [Result.andThen]
 rw [Oper.upon_value]
 go_wp2
 go_end0
 exact ⟨rfl,rfl⟩
end
theorem qEW (u:Bool) (bs:List UInt8):AX Tryz.prog G 107 [.ptr 2 0] (qAN u bs) (.tuple []) [2,3] (qAN true bs):=by
 refine ⟨kH Tryz.func107 (by kernel_rfl) rfl,fun M μ w vs hg rel => ?_⟩
 obtain ⟨l⟩:=vs
 have hsz:l.length=1:=by simpa using rel.slots.1
 match l,hsz with
 | [v],_ =>
 have hv:=rel.slots.2 0 v (.ptr 2 0) rfl rfl
 cases hv with
 | @ptr _ _ b hb =>
 have hbx:=rel.box 2 (.vars 111 [zBP u,.ms 3]) (by simp [qAN])
 cases hbx with
 | @vars _ _ b' arr h0 hh hs ho hc =>
 rw [hb] at h0; cases h0
 obtain ⟨x,y,rfl⟩:∃ x y,arr = #[x,y]:=by
  obtain ⟨l⟩:=arr
  match l,hs with
  | [x,y],_=>exact ⟨x,y,rfl⟩
 have hx:=hc 0 x (zBP u) rfl rfl
 have hy:=hc 1 y (.ms 3) rfl rfl
 have hfin : ∀ w', Rel ⟨w.heap.size, w, M, μ, wH μ (qAN u bs)⟩ M μ ⟨[.ptr 2 0], (qAN u bs).map (·.1), qAN true bs, 0⟩ #[.pointer (some ⟨b, 0, none⟩)] w' →
   ∃ v M' μ',(Ending.returned (.tuple #[]):Ending) = .returned v∧Rel ⟨w.heap.size,w,M,μ,wH μ (qAN u bs)⟩ M' μ' ⟨[.tuple []],[2,3],qAN true bs,0⟩ #[v] w':=by
  intro w' r
  refine ⟨_,M,μ,rfl,{ r with slots:=⟨rfl,fun i u x hu hx => ?_⟩,pins:=fun _ _=>rfl }⟩
  cases i with
  | zero=>simp at hu hx; subst hu; subst hx; exact .tuple rfl fun i u x hu=>by simp at hu
  | succ i=>simp at hx
 cases u with
 | true =>
  obtain rfl:x = .pointer (some ⟨b,0,none⟩):=by
   cases hx with
   | ptr h=>rw [hb] at h; cases h; rfl
  refine (zEK b w (by rw [wJ hh]; rfl)).mono ?_
  rintro e w' ⟨rfl,rfl⟩
  exact hfin _ rel
 | false =>
  obtain rfl:x = .pointer none:=by
   cases hx with
   | p h=>cases h; rfl
  refine (zBI b w (by rw [wJ hh]; rfl) (by simp [World.shape?,hh]) (by simp [World.frozen?,hh])).mono ?_
  rintro e w' ⟨rfl,rfl⟩
  refine hfin _ ?_
  have ht:Turned w (w.setCell ⟨b,0,none⟩ (.pointer (some ⟨b,0,none⟩))) b :=
   ⟨rfl,rfl,rfl,by simp [World.setCell],fun k hk=>RowKit.Below.heap_setCell w ⟨b,0,none⟩ _ k hk⟩
  have:=rel.write (id:=2) (bx := .vars 111 [zBP true,.ms 3]) (by simp [qM,qAN]) hb ht (.vars (arr := #[.pointer (some ⟨b,0,none⟩),y]) hb (by simp only [World.setCell,Array.getElem?_modify,if_pos,hh]; simp) rfl (fun i u hu => ?_) (fun i u x hu hx => ?_))
  ·simpa [qAN,zQ] using this
  ·match i,hu with
   | 0,hu=>simp at hu; subst hu; rfl
   | 1,hu=>exact ho 1 u (by simpa using hu)
   | i+2,hu=>simp at hu
  match i,hu,hx with
  | 0,hu,hx=>simp at hu hx; subst hu; subst hx; exact .ptr hb
  | 1,hu,hx=>simp at hu hx; subst hu; subst hx; exact hy
  | i+2,hu,hx=>simp at hu
theorem qUI (bs:List UInt8):AX Tryz.prog G 107 [.ptr 2 0] [(2,.vars 111 [.p .nilp,.ms 3]),(3,.row 5 1 (qH bs))] (.tuple []) [2,3] [(2,.vars 111 [.ptr 2 0,.ms 3]),(3,.row 5 1 (qH bs))]:=qEW false bs
theorem zBJ (bs:List UInt8):AX Tryz.prog G 107 [.ptr 2 0] [(2,.vars 111 [.ptr 2 0,.ms 3]),(3,.row 5 1 (qH bs))] (.tuple []) [2,3] [(2,.vars 111 [.ptr 2 0,.ms 3]),(3,.row 5 1 (qH bs))]:=qEW true bs
open Go.Shelf Go.RowKit
section
variable {P:Program} {ρ:Ren}
abbrev qLE (g:Nat) (w w':World):Prop:=Kept (fun k=>k=g∨w.heap.size≤k) w w'
theorem qFR (g:Nat) (w:World):qLE g w w.drew:=⟨rfl,rfl,rfl,Nat.le_refl _,fun _ _=>rfl⟩
theorem qRG (g:Nat) (w:World) (n:Nat):qLE g w (w.drew.freeze ⟨g,0,none⟩ n):=by
 unfold World.freeze
 split
 ·exact qFR g w
 exact ⟨rfl,rfl,rfl,by simp only [Array.size_modify]; exact Nat.le_refl _,fun k hk=>by
  simp only [Array.getElem?_modify]
  rw [if_neg (by omega)]; rfl⟩
theorem qJH (g:Nat) (w:World) (o:Obj):qLE g w (w.alloc o).drew:=⟨rfl,rfl,rfl,by show w.heap.size≤(w.heap.push o).size; simp,fun k hk=>by
 show (w.heap.push o)[k]?=_
 rw [Array.getElem?_push,if_neg (by omega)]⟩
theorem qRH (g:Nat) (w:World) (o:Obj):qLE g w (w.drew.alloc o):=qJH g w o
set_option maxHeartbeats 1000000 in
theorem zEO (L : Lays.n169 P ρ) (X : Builder.Extra P ρ) (b g cap : Nat) (p : Value) (cur : Array Value) (l : List UInt8) (w : World) (hbk : w.heap[b]? = some (.cells #[p, .slice (some ⟨g, 0, none⟩) l.length cap] (ρ.t 72) (0, 0)))
  (hg:w.heap[g]?=some (.cells cur (ρ.t 5) (0,0))) (hnc:l.length≤cap) (hcm:cap≤maxLen) (hcs:cur.size=cap) (hcells:∀ (j:Nat) (x:UInt8),l[j]?=some x→cur[j]?=some (Value.int .u8 x.toNat)) (h0:l≠[]) :
  Calls P (ρ.f 169) #[.pointer (some ⟨b,0,none⟩)] w fun e w'=>e = .returned (.string ⟨l.toArray⟩)∧qLE g w w':=by
 have hl0:l.length≠0:=by simpa using h0
 have c1:w.drew.cell? ⟨b,1,none⟩=some (.slice (some ⟨g,0,none⟩) l.length cap):=by
  have:w.drew.heap[b]?=some (.cells #[p,.slice (some ⟨g,0,none⟩) l.length cap] (ρ.t 72) (0,0)):=hbk
  rw [Lib.cell_of_heap this]; rfl
 have hSD:(Builtin.unsafeSliceData_ #[(ρ.t 37)] (ρ.t 127) #[.slice (some ⟨g,0,none⟩) l.length cap]).run P w.drew = .ok (.pointer (some ⟨g,0,none⟩)) w.drew :=
  Lib.run_unsafeSliceData_row _ _ _ _ _ _ (by omega)
 have hUS:(Builtin.unsafeString_ #[(ρ.t 127),(ρ.t 3)] (ρ.t 9) #[.pointer (some ⟨g,0,none⟩),.int .i64 l.length]).run P w.drew = .ok (.string ⟨l.toArray⟩) (w.drew.freeze ⟨g,0,none⟩ l.length):=by
  refine Lib.run_unsafeString_row w.drew (ρ.t 127) (ρ.t 3) (ρ.t 9) (ρ.t 5) L.t127 X.cellsByte g cur.size (by have hg':w.drew.heap[g]?=some (.cells cur (ρ.t 5) (0,0)):=hg; simp [World.shape?,hg']) l h0 (by omega) (by unfold maxLen at hcm; omega) ?_
  intro j x hx
  have hg':w.drew.heap[g]?=some (.cells cur (ρ.t 5) (0,0)):=hg
  rw [xE,Nat.zero_add,Lib.cell_of_heap hg']
  exact hcells j x hx
 have mixed:=L.mixed
 have t72:=L.t72; have a72:=L.a72; have z72:=L.z72; have v72:=L.v72; have u72:=run_underlying L.t72
 have t70:=L.t70; have a70:=L.a70; have z70:=L.z70; have v70:=L.v70; have u70:=run_underlying L.t70
 have t37:=L.t37; have a37:=L.a37; have z37:=L.z37; have v37:=L.v37; have u37:=run_underlying L.t37
 have t127:=L.t127; have a127:=L.a127; have z127:=L.z127; have v127:=L.v127; have u127:=run_underlying L.t127
 have t3:=L.t3; have a3:=L.a3; have z3:=L.z3; have v3:=L.v3; have u3:=run_underlying L.t3
 have t9:=L.t9; have a9:=L.a9; have z9:=L.z9; have v9:=L.v9; have u9:=run_underlying L.t9
 have t5:=X.t5; have a5:=X.a5; have z5:=X.z5; have v5:=X.v5; have u5:=run_underlying X.t5
 go_enter L.f169,Body.n169_ntmps ρ
 go_wp2
 go_region_o
 all_goals (go_wp2; go_ret; exact ⟨rfl,qRG g w _⟩)
set_option maxHeartbeats 2000000 in
theorem zEP (L : Lays.n169 P ρ) (X : Builder.Extra P ρ) (b : Nat) (p : Value) (w : World) (hbk : w.heap[b]? = some (.cells #[p, .slice none 0 0] (ρ.t 72) (0, 0))) :
  Calls P (ρ.f 169) #[.pointer (some ⟨b,0,none⟩)] w fun e w'=>e = .returned (.string ⟨#[]⟩)∧qLE w.heap.size w w':=by
 have hUS:=Any.unsafeString_none L X
 have c1:w.drew.cell? ⟨b,1,none⟩=some (.slice none 0 0):=by
  have:w.drew.heap[b]?=some (.cells #[p,.slice none 0 0] (ρ.t 72) (0,0)):=hbk
  rw [Lib.cell_of_heap this]; rfl
 have hSD:(Builtin.unsafeSliceData_ #[(ρ.t 37)] (ρ.t 127) #[.slice none 0 0]).run P w.drew = .ok (.pointer none) w.drew:=rfl
 have mixed:=L.mixed
 have t72:=L.t72; have a72:=L.a72; have z72:=L.z72; have v72:=L.v72; have u72:=run_underlying L.t72
 have t70:=L.t70; have a70:=L.a70; have z70:=L.z70; have v70:=L.v70; have u70:=run_underlying L.t70
 have t37:=L.t37; have a37:=L.a37; have z37:=L.z37; have v37:=L.v37; have u37:=run_underlying L.t37
 have t127:=L.t127; have a127:=L.a127; have z127:=L.z127; have v127:=L.v127; have u127:=run_underlying L.t127
 have t3:=L.t3; have a3:=L.a3; have z3:=L.z3; have v3:=L.v3; have u3:=run_underlying L.t3
 have t9:=L.t9; have a9:=L.a9; have z9:=L.z9; have v9:=L.v9; have u9:=run_underlying L.t9
 have t5:=X.t5; have a5:=X.a5; have z5:=X.z5; have v5:=X.v5; have u5:=run_underlying X.t5
 go_enter L.f169,Body.n169_ntmps ρ
 go_wp2
 go_region_o
 all_goals (go_wp2; go_ret; exact ⟨rfl,qFR _ w⟩)
set_option maxHeartbeats 2000000 in
theorem zBN (L : Lays.n169 P ρ) (X : Builder.Extra P ρ) (b g : Nat) (p : Value) (cur : Array Value) (w : World) (hlt : b < w.heap.size) (hbk : w.heap[b]? = some (.cells #[p, .slice (some ⟨g, 0, none⟩) 0 0] (ρ.t 72) (0, 0))) (hg : w.heap[g]? = some (.cells cur (ρ.t 5) (0, 0))) :
  Calls P (ρ.f 169) #[.pointer (some ⟨b,0,none⟩)] w fun e w'=>e = .returned (.string ⟨#[]⟩)∧qLE g w w':=by
 have hUS:=Any.unsafeString_none L X
 have c1:w.drew.cell? ⟨b,1,none⟩=some (.slice (some ⟨g,0,none⟩) 0 0):=by
  have:w.drew.heap[b]?=some (.cells #[p,.slice (some ⟨g,0,none⟩) 0 0] (ρ.t 72) (0,0)):=hbk
  rw [Lib.cell_of_heap this]; rfl
 have hSD:(Builtin.unsafeSliceData_ #[(ρ.t 37)] (ρ.t 127) #[.slice (some ⟨g,0,none⟩) 0 0]).run P w.drew = .ok (.pointer (some ⟨w.drew.heap.size,0,none⟩)) (w.drew.alloc (.view ⟨g,0,none⟩ (ρ.t 5))) :=
  Lib.run_unsafeSliceData_zero w.drew _ _ (ρ.t 5) L.t127 ⟨g,0,none⟩ 0 ((ρ.t 5),cur.size) (by have hg':w.drew.heap[g]?=some (.cells cur (ρ.t 5) (0,0)):=hg; simp [World.shape?,hg'])
 have c2:(w.drew.alloc (.view ⟨g,0,none⟩ (ρ.t 5))).cell? ⟨b,1,none⟩=some (.slice (some ⟨g,0,none⟩) 0 0):=by
  have:(w.drew.alloc (.view ⟨g,0,none⟩ (ρ.t 5))).heap[b]?=_:=(Lib.alloc_old w.drew _ b hlt).trans hbk
  rw [Lib.cell_of_heap this]; rfl
 have c3:(w.alloc (.view ⟨g,0,none⟩ (ρ.t 5))).drew.cell? ⟨b,1,none⟩=some (.slice (some ⟨g,0,none⟩) 0 0):=c2
 have c0:w.cell? ⟨b,1,none⟩=some (.slice (some ⟨g,0,none⟩) 0 0):=c1
 have mixed:=L.mixed
 have t72:=L.t72; have a72:=L.a72; have z72:=L.z72; have v72:=L.v72; have u72:=run_underlying L.t72
 have t70:=L.t70; have a70:=L.a70; have z70:=L.z70; have v70:=L.v70; have u70:=run_underlying L.t70
 have t37:=L.t37; have a37:=L.a37; have z37:=L.z37; have v37:=L.v37; have u37:=run_underlying L.t37
 have t127:=L.t127; have a127:=L.a127; have z127:=L.z127; have v127:=L.v127; have u127:=run_underlying L.t127
 have t3:=L.t3; have a3:=L.a3; have z3:=L.z3; have v3:=L.v3; have u3:=run_underlying L.t3
 have t9:=L.t9; have a9:=L.a9; have z9:=L.z9; have v9:=L.v9; have u9:=run_underlying L.t9
 have t5:=X.t5; have a5:=X.a5; have z5:=X.z5; have v5:=X.v5; have u5:=run_underlying X.t5
 go_enter L.f169,Body.n169_ntmps ρ
 go_wp2
 go_region_o
 all_goals (go_wp2; go_ret; first | exact ⟨rfl,qJH g w _⟩ | exact ⟨rfl,qRH g w _⟩)
set_option maxHeartbeats 2000000 in
theorem zBM (L : Lays.n169 P ρ) (X : Builder.Extra P ρ) (b g cap : Nat) (p : Value) (w : World) (hc0 : cap ≠ 0) (hbk : w.heap[b]? = some (.cells #[p, .slice (some ⟨g, 0, none⟩) 0 cap] (ρ.t 72) (0, 0))) :
  Calls P (ρ.f 169) #[.pointer (some ⟨b,0,none⟩)] w fun e w'=>e = .returned (.string ⟨#[]⟩)∧qLE g w w':=by
 have hUS:=Any.unsafeString_none L X
 have c1:w.drew.cell? ⟨b,1,none⟩=some (.slice (some ⟨g,0,none⟩) 0 cap):=by
  have:w.drew.heap[b]?=some (.cells #[p,.slice (some ⟨g,0,none⟩) 0 cap] (ρ.t 72) (0,0)):=hbk
  rw [Lib.cell_of_heap this]; rfl
 have hSD:(Builtin.unsafeSliceData_ #[(ρ.t 37)] (ρ.t 127) #[.slice (some ⟨g,0,none⟩) 0 cap]).run P w.drew = .ok (.pointer (some ⟨g,0,none⟩)) w.drew :=
  Lib.run_unsafeSliceData_row _ _ _ _ _ _ hc0
 clear hc0
 have mixed:=L.mixed
 have t72:=L.t72; have a72:=L.a72; have z72:=L.z72; have v72:=L.v72; have u72:=run_underlying L.t72
 have t70:=L.t70; have a70:=L.a70; have z70:=L.z70; have v70:=L.v70; have u70:=run_underlying L.t70
 have t37:=L.t37; have a37:=L.a37; have z37:=L.z37; have v37:=L.v37; have u37:=run_underlying L.t37
 have t127:=L.t127; have a127:=L.a127; have z127:=L.z127; have v127:=L.v127; have u127:=run_underlying L.t127
 have t3:=L.t3; have a3:=L.a3; have z3:=L.z3; have v3:=L.v3; have u3:=run_underlying L.t3
 have t9:=L.t9; have a9:=L.a9; have z9:=L.z9; have v9:=L.v9; have u9:=run_underlying L.t9
 have t5:=X.t5; have a5:=X.a5; have z5:=X.z5; have v5:=X.v5; have u5:=run_underlying X.t5
 go_enter L.f169,Body.n169_ntmps ρ
 go_wp2
 go_region_o
 all_goals (go_wp2; go_ret; exact ⟨rfl,qFR _ w⟩)
end
theorem qAD:Builder.Extra Tryz.prog Tryz.lays169_ren where
 sizeBuilder:=by kernel_rfl
 liesBuilder:=by kernel_rfl
 t5:=Tryz.underlying5
 a5:=Tryz.isAgg5
 z5:=Tryz.sizeOf5
 v5:=Tryz.zeroValue5
 infoByte:=by kernel_rfl
 cellsByte:=by kernel_rfl
 sizeByte:=by kernel_rfl
 neB5:=by decide
theorem qCO (u:Bool) (bs:List UInt8):AX Tryz.prog G 76 [.ptr 2 0] (qAN u bs) (.p (.str bs)) [] []:=by
 refine ⟨kH Tryz.func76 (by kernel_rfl) rfl,fun M μ w vs hg rel => ?_⟩
 obtain ⟨l⟩:=vs
 have hsz:l.length=1:=by simpa using rel.slots.1
 match l,hsz with
 | [v],_ =>
 have hv:=rel.slots.2 0 v (.ptr 2 0) rfl rfl
 cases hv with
 | @ptr _ _ b hb =>
 have hbx:=rel.box 2 (.vars 111 [zBP u,.ms 3]) (by simp [qAN])
 cases hbx with
 | @vars _ _ b' arr h0 hh hs ho hc =>
 rw [hb] at h0; cases h0
 obtain ⟨x,y,rfl⟩:∃ x y,arr = #[x,y]:=by
  obtain ⟨l⟩:=arr
  match l,hs with
  | [x,y],_=>exact ⟨x,y,rfl⟩
 have hy:=hc 1 y (.ms 3) rfl rfl
 have hblt:b<w.heap.size:=(Array.getElem?_eq_some_iff.1 hh).1
 have hfin : ∀ (g : Nat) (w' : World), (g < w.heap.size → wH μ (qAN u bs) g ∧ ∀ o, M g o = none) → bs.length ≤ maxLen → qLE g w w' →
   ∃ v M' μ',(Ending.returned (.string ⟨bs.toArray⟩):Ending) = .returned v∧Rel ⟨w.heap.size,w,M,μ,wH μ (qAN u bs)⟩ M' μ' ⟨[.p (.str bs)],[],[],0⟩ #[v] w':=by
  intro g w' hl hm hk
  refine ⟨_,M,μ,rfl, ?_⟩
  have hko:∀ k,k<w.heap.size→k≠g→w'.heap[k]?=w.heap[k]?:=fun k h1 h2=>hk.block k (by omega)
  refine ⟨fun b o v hv => ?_,fun _ _ _ h=>h,fun _ _ _=>rfl,⟨rfl,fun i u x hu hx => ?_⟩,fun _ h=>(by cases h),fun _ _ h=>(by cases h),by simp,fun _ _ _ h=>by simp [qM] at h,fun _ _ h=>by simp [qM] at h,hk.size, ?_⟩
  ·have h1:=rel.mem b o v hv
   have hlt:=jO h1
   exact (World.cell?_of_block (w:=w) (hko b hlt (by rintro rfl; rw [(hl hlt).2 o] at hv; cases hv))).trans h1
  ·cases i with
   | zero=>simp at hu hx; subst hu; subst hx; exact .p (.str (by simp) hm)
   | succ i=>simp at hx
  refine ⟨hk.os,hk.tape,hk.output,hk.size,fun k h => ?_⟩
  have h1:k<w.heap.size:=Nat.not_le.1 fun h'=>h (.inl h')
  exact hko k h1 (by rintro rfl; exact h (.inr (hl h1).1))
 have hrow:=rel.box 3 (.row 5 1 (qH bs)) (by simp [qAN])
 have key:∃ g,(g<w.heap.size→wH μ (qAN u bs) g∧∀ o,M g o=none)∧bs.length≤maxLen∧Calls Tryz.prog 76 #[.pointer (some ⟨b,0,none⟩)] w fun e w'=>e = .returned (.string ⟨bs.toArray⟩)∧qLE g w w':=by
  rcases hrow.cells with ⟨he,hn,hval⟩ | ⟨g,cap,cur,hg0,hval,hgh,hcs,hlc,hcm,hone,hro⟩
  ·obtain rfl:bs=[]:=by simpa [qH] using he
   have hy':y = .slice none 0 0:=by cases hy with | ms h _=>rw [h,hval]
   subst hy'
   exact ⟨w.heap.size,fun h=>absurd h (Nat.lt_irrefl _),by simp,zEP Tryz.lays169 qAD b x w hh⟩
  have hy':y = .slice (some ⟨g,0,none⟩) bs.length cap:=by cases hy with | ms h _=>rw [h,hval]; simp [qH]
  subst hy'
  have hown:=rel.own 3 g (by simp [qM,qAN]) hg0
  refine ⟨g,fun h=>⟨⟨3,by simp [qM,qAN],hg0⟩,hown.2.2⟩,by simp [qH] at hlc; omega, ?_⟩
  by_cases hbs:bs=[]
  ·subst hbs
   by_cases hc0:cap=0
   ·subst hc0; exact zBN Tryz.lays169 qAD b g x cur w hblt hh hgh
   exact zBM Tryz.lays169 qAD b g cap x w hc0 hh
  refine zEO Tryz.lays169 qAD b g cap x cur bs w hh hgh (by simpa [qH] using hlc) hcm (by simpa using hcs) (fun j z hz => ?_) hbs
  have hjl:=(List.getElem?_eq_some_iff.1 hz).1
  have hj:j<cur.size:=by rw [hcs]; simp [qH] at hlc; omega
  have:=hro.get j (.int .u8 z.toNat) 0 (.int .u8 z.toNat) cur[j] (by simp [qH,hz]) rfl (by simp [qH,List.getElem?_take,hjl,hj])
  rw [Array.getElem?_eq_getElem hj]
  generalize cur[j]=q at this
  cases this
  rfl
 obtain ⟨g,h1,h2,h3⟩:=key
 refine h3.mono ?_
 rintro e w' ⟨rfl,hk⟩
 exact hfin g w' h1 h2 hk
theorem qNA (bs:List UInt8):AX Tryz.prog G 76 [.ptr 2 0] [(2,.vars 111 [.ptr 2 0,.ms 3]),(3,.row 5 1 (qH bs))] (.p (.str bs)) [] []:=qCO true bs
theorem qUR (bs:List UInt8):AX Tryz.prog G 76 [.ptr 2 0] [(2,.vars 111 [.p .nilp,.ms 3]),(3,.row 5 1 (qH bs))] (.p (.str bs)) [] []:=qCO false bs
open Go
open Go.Lib
def vC (n:Nat):UInt8:=if n<10 then UInt8.ofNat (48+n) else UInt8.ofNat (87+n)
def qb (b:UInt8):List UInt8 :=
 if b=34∨b=92 then [92,b] else if b=10 then [92,110] else if b=13 then [92,114] else if b=9 then [92,116]
 else if b<32∨b=127 then [92,117,48,48,vC (b.toNat / 16),vC (b.toNat % 16)] else [b]
def yB (s:List UInt8):List UInt8:=s.flatMap qb
def zK (s:List UInt8):List UInt8:=34::(yB s++[34])
def qOL (c:UInt8):Option Nat:=if 48≤c∧c≤57 then some (c.toNat-48) else if 97≤c∧c≤102 then some (c.toNat-87) else if 65≤c∧c≤70 then some (c.toNat-55) else none
def qFT:List UInt8→Nat→Option Nat
 | [],x=>some x
 | c::l,x=>match qOL c with
  | none=>none
  | some k=>qFT l (16 * x+k)
def wE (s:List UInt8):Option Nat:=if s.length<6∨s.take 2≠[92,117] then none else qFT ((s.drop 2).take 4) 0
def qBB (c:UInt8):Option Nat:=if c=34 then some 34 else if c=92 then some 92 else if c=47 then some 47 else if c=98 then some 8 else if c=102 then some 12 else if c=110 then some 10 else if c=114 then some 13 else if c=116 then some 9 else none
def qHH (u w:Option Nat):Nat × Nat × Bool :=
 if u.isSome=false∨u.getD 0 / 1024≠54 then (u.getD 0,6,u.isSome && decide (u.getD 0 / 1024≠55)) else (65536+u.getD 0 % 1024 * 1024+w.getD 0 % 1024,12,w.isSome && decide (w.getD 0 / 1024=55))
def wY (s:List UInt8):Nat × Nat × Bool:=match s with
 | _::c::_=>match qBB c with
  | some v=>(v,2,true)
  | none=>qHH (wE s) (wE (s.drop 6))
 | _=>(0,0,false)
def qDJ (s:List UInt8):Option (Nat × Nat):=if (wY s).2.2=true then some ((wY s).1,(wY s).2.1) else none
def wD:Nat→List UInt8→Nat→List UInt8→List UInt8 × Nat × Int
 | 0,_,_,_=>([],0,6)
 | f+1,s,at',out=>if s=[] then ([],0,6)
  else if (decodeL s).1=34 then (if 4096<out.length then ([],0,3) else (out,at'+1,0))
  else if (decodeL s).1<32∨((decodeL s).1=65533∧(decodeL s).2=1) then ([],0,6)
  else if (decodeL s).1=92 then (match qDJ s with
   | none=>([],0,6)
   | some (c,n)=>wD f (s.drop n) (at'+n) (out++encodeRune c))
  else wD f (s.drop (decodeL s).2) (at'+(decodeL s).2) (out++encodeRune (decodeL s).1)
def zA (s:List UInt8):List UInt8 × Nat × Int:=if s.head?=some 34 then wD s.length (s.drop 1) 1 [] else ([],0,6)
theorem uZ {b:UInt8} {t:List UInt8} (h:b.toNat<128):decodeL (b::t)=(b.toNat,1):=by
 unfold decodeL
 rw [decode_at]
 have e:(⟨(b::t).toArray⟩:ByteArray).get! 0=b:=rfl
 rw [e]
 unfold decodeN
 rw [if_pos h]
theorem qJD {b:UInt8} (h:b.toNat<128):encodeRune (b.toNat:Int)=[b]:=by
 simp only [encodeRune,encodeRuneZ_one (r:=(b.toNat:Int)) (by omega) (by omega),List.map_cons,List.map_nil]
 congr 1
 simp
theorem xA (l:List UInt8):decodeL l=decodeN l.length (l.getD 0 0).toNat (l.getD 1 0).toNat (l.getD 2 0).toNat (l.getD 3 0).toNat:=by
 unfold decodeL
 rw [decode_at]
 have e:∀ k,(⟨l.toArray⟩:ByteArray).get! k=l.getD k 0:=by
  intro k
  show l.toArray[k]! = _
  simp [List.getD_eq_getElem?_getD]
  rfl
 simp only [e]
 rfl
set_option maxRecDepth 100000 in
set_option maxHeartbeats 2000000 in
theorem qOV (n b0 b1 b2 b3 n' b1' b2' b3' : Nat) (hv : ¬ ((decodeN n b0 b1 b2 b3).1 = 65533 ∧ (decodeN n b0 b1 b2 b3).2 = 1)) (h : (decodeN n b0 b1 b2 b3).2 ≤ n')
  (h1:1<(decodeN n b0 b1 b2 b3).2→b1'=b1) (h2:2<(decodeN n b0 b1 b2 b3).2→b2'=b2) (h3:3<(decodeN n b0 b1 b2 b3).2→b3'=b3):decodeN n' b0 b1' b2' b3'=decodeN n b0 b1 b2 b3:=by
 revert hv h h1 h2 h3
 generalize e:decodeN n b0 b1 b2 b3=p
 obtain ⟨r,w⟩:=p
 intro hv h h1 h2 h3
 simp only at hv h h1 h2 h3
 unfold decodeN at e
 by_cases c0:b0<128
 ·rw [if_pos c0] at e
  unfold decodeN; rw [if_pos c0]; exact e
 rw [if_neg c0] at e
 by_cases c1:b0 / 32=6∧(1<n∧b1 / 64=2)
 ·rw [if_pos c1] at e
  split at e
  ·rename_i k
   cases e
   have e1:=h1 (by omega)
   subst e1
   unfold decodeN; rw [if_neg c0,if_pos ⟨c1.1,by omega,c1.2.2⟩,if_pos k]
  cases e; exact absurd ⟨rfl,rfl⟩ hv
 rw [if_neg c1] at e
 by_cases c2:b0 / 16=14∧(1<n∧b1 / 64=2)∧(2<n∧b2 / 64=2)
 ·rw [if_pos c2] at e
  split at e
  ·rename_i k
   cases e
   have e1:=h1 (by omega)
   have e2:=h2 (by omega)
   subst e1; subst e2
   unfold decodeN; rw [if_neg c0,if_neg (by omega),if_pos ⟨c2.1,⟨by omega,c2.2.1.2⟩,by omega,c2.2.2.2⟩,if_pos k]
  cases e; exact absurd ⟨rfl,rfl⟩ hv
 rw [if_neg c2] at e
 split at e
 ·rename_i c3
  split at e
  ·rename_i k
   cases e
   have e1:=h1 (by omega)
   have e2:=h2 (by omega)
   have e3:=h3 (by omega)
   subst e1; subst e2; subst e3
   unfold decodeN; rw [if_neg c0,if_neg (by omega),if_neg (by omega),if_pos ⟨c3.1,⟨by omega,c3.2.1.2⟩,⟨by omega,c3.2.2.1.2⟩,by omega,c3.2.2.2.2⟩,if_pos k]
  cases e; exact absurd ⟨rfl,rfl⟩ hv
 cases e; exact absurd ⟨rfl,rfl⟩ hv
theorem vK (l:List UInt8) (hne:l≠[]):1≤(decodeL l).2:=by
 rw [xA l]
 unfold decodeN
 repeat' split
 all_goals simp
theorem qET (l t:List UInt8) (hne:l≠[]) (hv:¬ ((decodeL l).1=65533∧(decodeL l).2=1)):decodeL (l.take (decodeL l).2++t)=decodeL l:=by
 have hle:=decodeL_le l hne
 have hpos:=vK l hne
 have e:=xA l
 generalize hk:(decodeL l).2=k at *
 have g:∀ j,j<k→(l.take k++t).getD j 0=l.getD j 0:=by
  intro j hj
  rw [List.getD_eq_getElem?_getD,List.getD_eq_getElem?_getD,List.getElem?_append_left (by simp; omega),List.getElem?_take,if_pos hj]
 rw [xA (l.take k++t),e,g 0 (by omega)]
 rw [e] at hk hv
 refine qOV _ _ _ _ _ _ _ _ _ (by rw [hk]; exact hv) ?_ ?_ ?_ ?_
 ·rw [hk]; simp; omega
 ·rw [hk]; intro h; rw [g 1 h]
 ·rw [hk]; intro h; rw [g 2 h]
 rw [hk]; intro h; rw [g 3 h]
theorem qMZ (l:List UInt8) (hne:l≠[]) (hv:¬ ((decodeL l).1=65533∧(decodeL l).2=1)) (hb:128≤(l.getD 0 0).toNat):(∀ b∈l.take (decodeL l).2,128≤b.toNat)∧128≤(decodeL l).1:=by
 have hr:=xA l
 have hle:=decodeL_le l hne
 have hlen:0<l.length:=by cases l with
  | nil=>exact absurd rfl hne
  | cons a l=>simp
 unfold decodeN at hr
 rw [if_neg (by omega)] at hr
 split at hr
 ·rename_i c
  split at hr
  ·rw [hr] at hv hle ⊢
   simp only at hle ⊢
   rw [takeB l (by omega)]
   refine ⟨fun b hb' => ?_,by omega⟩
   simp at hb'
   rcases hb' with h | h <;> (subst h; simp at hb c; omega)
  rw [hr] at hv; exact absurd ⟨rfl,rfl⟩ hv
 split at hr
 ·rename_i c
  split at hr
  ·rw [hr] at hv hle ⊢
   simp only at hle ⊢
   rw [takeC l (by omega)]
   refine ⟨fun b hb' => ?_,by omega⟩
   simp at hb'
   rcases hb' with h | h | h <;> (subst h; simp at hb c; omega)
  rw [hr] at hv; exact absurd ⟨rfl,rfl⟩ hv
 split at hr
 ·rename_i c
  split at hr
  ·rw [hr] at hv hle ⊢
   simp only at hle ⊢
   rw [takeD l (by omega)]
   refine ⟨fun b hb' => ?_,by omega⟩
   simp at hb'
   rcases hb' with h | h | h | h <;> (subst h; simp at hb c; omega)
  rw [hr] at hv; exact absurd ⟨rfl,rfl⟩ hv
 rw [hr] at hv; exact absurd ⟨rfl,rfl⟩ hv
theorem qLT {l:List UInt8} (h:∀ b∈l,128≤b.toNat):yB l=l:=by
 induction l with
 | nil=>rfl
 | cons b l ih =>
  have hb:=h b (by simp)
  have h1:qb b=[b]:=by
   unfold qb
   have ne:∀ c:UInt8,c.toNat<128→b≠c:=fun c hc e=>by subst e; omega
   rw [if_neg (by rintro (e | e) <;> exact ne _ (by decide) e),if_neg (ne _ (by decide)),if_neg (ne _ (by decide)),if_neg (ne _ (by decide)),if_neg]
   rintro (e | e)
   ·rw [UInt8.lt_iff_toNat_lt] at e
    simp at e; omega
   exact ne _ (by decide) e
  show qb b++yB l=_
  rw [h1,ih fun b hb=>h b (List.mem_cons_of_mem _ hb)]
  rfl
theorem qEC (a b:List UInt8):yB (a++b)=yB a++yB b:=by simp [yB]
theorem qYY (b:UInt8) (hb:b.toNat<128) (f:Nat) (at':Nat) (out t:List UInt8):wD (f+1) (qb b++t) at' out=wD f t (at'+(qb b).length) (out++[b]):=by
 have esc:∀ (x:UInt8) (l:List UInt8) (c:UInt8),c.toNat<128→qDJ (92::x::(l++t))=some (c.toNat,l.length+2)→wD (f+1) (92::x::l++t) at' out=wD f t (at'+(92::x::l).length) (out++[c]):=by
  intro x l c hc he
  show wD (f+1) (92::x::(l++t)) at' out=_
  simp only [wD]
  rw [if_neg (by simp),uZ (show (92:UInt8).toNat<128 by decide),if_neg (by decide),if_neg (by decide),if_pos (by decide),he]
  simp only
  rw [qJD hc]
  rw [show (92::x::(l++t)).drop (l.length+2)=t by simp]
  simp
 unfold qb
 split
 ·rename_i h
  rcases h with rfl | rfl
  ·exact esc 34 [] 34 (by decide) rfl
  exact esc 92 [] 92 (by decide) rfl
 rename_i h0
 split
 ·rename_i h; subst h; exact esc 110 [] 10 (by decide) rfl
 split
 ·rename_i h; subst h; exact esc 114 [] 13 (by decide) rfl
 split
 ·rename_i h; subst h; exact esc 116 [] 9 (by decide) rfl
 split
 ·rename_i h
  refine esc 117 [48,48,vC (b.toNat / 16),vC (b.toNat % 16)] b hb ?_
  have hex:∀ k:Fin 128,k.val<32∨k.val=127→qFT [48,48,vC (k.val / 16),vC (k.val % 16)] 0=some k.val:=by decide +kernel
  have h':b.toNat<32∨b.toNat=127:=by
   rcases h with h | h
   ·rw [UInt8.lt_iff_toNat_lt] at h; exact .inl h
   subst h; exact .inr rfl
  have h2:=hex ⟨b.toNat,hb⟩ h'
  simp only at h2
  have h3:wE (92::117::([48,48,vC (b.toNat / 16),vC (b.toNat % 16)]++t))=some b.toNat:=by
   unfold wE
   rw [if_neg (by simp)]
   exact h2
  have h4:qDJ (92::117::([48,48,vC (b.toNat / 16),vC (b.toNat % 16)]++t))=some (b.toNat,6):=by
   have h5:wY (92::117::([48,48,vC (b.toNat / 16),vC (b.toNat % 16)]++t))=(b.toNat,6,true):=by
    unfold wY
    simp only [show qBB 117=none by decide,h3,qHH,Option.isSome_some,Option.getD_some]
    rw [if_pos (by right; omega)]
    simp; omega
   unfold qDJ
   rw [h5]; rfl
  exact h4
 rename_i h1 h2 h3 h4
 have n34:b.toNat≠34:=fun e=>h0 (.inl (UInt8.toNat_inj.1 e))
 have n92:b.toNat≠92:=fun e=>h0 (.inr (UInt8.toNat_inj.1 e))
 have n32:¬ b.toNat<32:=fun e=>h4 (.inl (by rw [UInt8.lt_iff_toNat_lt]; exact e))
 show wD (f+1) (b::t) at' out=_
 simp only [wD]
 rw [if_neg (by simp),uZ hb,if_neg (by simpa using n34),if_neg (by simp; omega),if_neg (by simpa using n92)]
 simp only
 rw [qJD hb]
 simp
theorem zFU (b : UInt8) : 1 ≤ (qb b).length := by
  unfold qb
  repeat' split
  all_goals simp
theorem qHZ : ∀ (n : Nat) (s : List UInt8), s.length ≤ n → validD s = true → ∀ (f at' : Nat) (out rest : List UInt8), s.length < f → (out ++ s).length ≤ 4096 →
  wD f (yB s++34::rest) at' out=(out++s,at'+(yB s).length+1,0)
 | n,[],_,_,f,at',out,rest,hf,hl=>by
  obtain ⟨f,rfl⟩:∃ g,f=g+1:=⟨f-1,by omega⟩
  simp only [yB,List.flatMap_nil,List.nil_append,wD]
  rw [if_neg (by simp),uZ (show (34:UInt8).toNat<128 by decide)]
  simp only [List.append_nil] at hl
  rw [if_pos (show ((34:UInt8).toNat,1).1=34 from rfl),if_neg (by omega)]
  simp
 | 0,b::s,h,_,_,_,_,_,_,_=>by simp at h
 | n+1,b::s,h,hv,f,at',out,rest,hf,hl=>by
  obtain ⟨f,rfl⟩:∃ g,f=g+1:=⟨f-1,by omega⟩
  by_cases hb:b.toNat<128
  ·rw [validD_cons b s hb] at hv
   have e:yB (b::s)=qb b++yB s:=rfl
   rw [e,List.append_assoc,qYY b hb,qHZ n s (by simp at h; omega) hv f _ _ rest (by simp at hf; omega) (by simpa using hl)]
   simp; omega
  have hne:(b::s)≠[]:=by simp
  rw [validD_step _ hne] at hv
  split at hv
  ·cases hv
  rename_i hok
  obtain ⟨h1,h2⟩:=qMZ (b::s) hne hok (by simpa using by omega)
  have hpos:=vK (b::s) hne
  have hle:=decodeL_le (b::s) hne
  have hmore:=qET (b::s)
  have henc:=encode_decode (b::s) hne hok
  generalize hk:decodeL (b::s)=p at *
  obtain ⟨r,k⟩:=p
  simp only at *
  have hsplit:(b::s)=(b::s).take k++(b::s).drop k:=(List.take_append_drop k _).symm
  have hb2:yB (b::s)=(b::s).take k++yB ((b::s).drop k):=by
   conv=>lhs; rw [hsplit]
   rw [qEC,qLT h1]
  have htl:((b::s).take k).length=k:=by rw [List.length_take]; omega
  have hx:∀ u,decodeL ((b::s).take k++u)=(r,k):=fun u=>hmore u hne hok
  generalize hA:(b::s).take k=A at *
  generalize hD:(b::s).drop k=D at *
  have hlenAD:(b::s).length=A.length+D.length:=by rw [hsplit]; simp
  rw [hb2,List.append_assoc]
  simp only [wD,hx]
  rw [if_neg (by intro e; have:=congrArg List.length e; simp at this),if_neg (by omega),if_neg (by omega),if_neg (by omega),henc]
  rw [show (A++(yB D++34::rest)).drop k=yB D++34::rest by rw [← htl,List.drop_left]]
  rw [qHZ n D (by omega) hv f _ _ rest (by omega) (by rw [List.append_assoc,← hsplit]; exact hl)]
  rw [hsplit]
  simp; omega
theorem qLS:∀ s:List UInt8,s.length≤(yB s).length
 | []=>Nat.le_refl _
 | b::s=>by
  have h1:=zFU b
  have h2:=qLS s
  show s.length+1≤(qb b++yB s).length
  rw [List.length_append]; omega
theorem qDP (s rest:List UInt8) (hv:validD s=true) (hl:s.length≤4096):zA (zK s++rest)=(s,(zK s).length,0):=by
 unfold zA zK
 simp only [List.cons_append,List.head?_cons,if_true,List.drop_succ_cons,List.drop_zero,List.append_assoc,List.singleton_append,List.nil_append]
 have hb:=qLS s
 rw [qHZ s.length s (Nat.le_refl _) hv _ 1 [] rest (by simp; omega) (by simpa using hl)]
 simp; omega
@[simp] theorem zGP (a s:List UInt8):qH (a++s)=qH a++s.map fun b => .int .u8 b.toNat:=by simp [qH]
theorem qLC (bs:List UInt8) (c:UInt8) (hb:bs.length≤100000000000):AX Tryz.prog G 73 [.ptr 2 0,.p (.int .u8 c.toNat)] [(2,.vars 111 [.p .nilp,.ms 3]),(3,.row 5 1 (qH bs))] (.dead) [2] [(2,.vars 111 [.ptr 2 0,.ms 3]),(3,.row 5 1 (qH (bs++[c])))]:=by
 refine AX.introU tok 900 Tryz.func73 (by kernel_rfl) rfl rfl ?_
 simp only [Tryz.f73,qR,List.map_cons,List.map_nil]
 refine rgn [] [[0,1]] ?_
 refine op1 tok ?_
 refine qA (rgn [] [[]] ?_)
 refine op1 tok ?_
 refine qP ?_
 refine qD.stepK [0,1] (zF rfl (qUI bs) (by simp)) (by conv=>lhs; simp) rfl ?_
 refine qD.nil ?_
 refine rgn [.int .u8 c.toNat] [[],[],[],[],[1,7,11],[],[],[7,14],[],[],[17]] ?_
 iterate 11 refine op1 tok ?_
 refine qA (rgn [] [[]] ?_)
 refine op1 tok ?_
 refine qA ?_
 exact AW.ret zI
theorem qYP (bs s:List UInt8) (hb:bs.length≤100000000000) (hs:s.length≤100000000000):AX Tryz.prog G 75 [.ptr 2 0,.p (.str s)] [(2,.vars 111 [.p .nilp,.ms 3]),(3,.row 5 1 (qH bs))] (.dead) [2] [(2,.vars 111 [.ptr 2 0,.ms 3]),(3,.row 5 1 (qH (bs++s)))]:=by
 refine AX.introU tok 900 Tryz.func75 (by kernel_rfl) rfl rfl ?_
 simp only [Tryz.f75,qR,List.map_cons,List.map_nil]
 refine rgn [] [[],[0,1]] ?_
 iterate 2 refine op1 tok ?_
 refine qA (rgn [] [[]] ?_)
 refine op1 tok ?_
 refine qP ?_
 refine qD.stepK [0,1] (zF rfl (qUI bs) (by simp)) (by conv=>lhs; simp) rfl ?_
 refine qD.nil ?_
 refine rgn [] [[],[],[],[],[1,8,12],[],[],[],[1,14,16],[1]] ?_
 iterate 10 refine op1 tok ?_
 refine qA (rgn [] [[],[],[],[4,5]] ?_)
 iterate 4 refine op1 tok ?_
 refine qA ?_
 exact AW.ret zI
theorem jM (bs:List UInt8) (c:UInt8) (hb:bs.length≤100000000000):AX Tryz.prog G 73 [.ptr 2 0,.p (.int .u8 c.toNat)] [(2,.vars 111 [.ptr 2 0,.ms 3]),(3,.row 5 1 (qH bs))] (.dead) [2] [(2,.vars 111 [.ptr 2 0,.ms 3]),(3,.row 5 1 (qH (bs++[c])))]:=by
 refine AX.introU tok 900 Tryz.func73 (by kernel_rfl) rfl rfl ?_
 simp only [Tryz.f73,qR,List.map_cons,List.map_nil]
 refine rgn [] [[0,1]] ?_
 refine op1 tok ?_
 refine qA (rgn [] [[]] ?_)
 refine op1 tok ?_
 refine qP ?_
 refine qD.stepK [0,1] (zF rfl (zBJ bs) (by simp)) (by conv=>lhs; simp) rfl ?_
 refine qD.nil ?_
 refine rgn [.int .u8 c.toNat] [[],[],[],[],[1,7,11],[],[],[7,14],[],[],[17]] ?_
 iterate 11 refine op1 tok ?_
 refine qA (rgn [] [[]] ?_)
 refine op1 tok ?_
 refine qA ?_
 exact AW.ret zI
theorem jK (bs s:List UInt8) (hb:bs.length≤100000000000) (hs:s.length≤100000000000):AX Tryz.prog G 75 [.ptr 2 0,.p (.str s)] [(2,.vars 111 [.ptr 2 0,.ms 3]),(3,.row 5 1 (qH bs))] (.dead) [2] [(2,.vars 111 [.ptr 2 0,.ms 3]),(3,.row 5 1 (qH (bs++s)))]:=by
 refine AX.introU tok 900 Tryz.func75 (by kernel_rfl) rfl rfl ?_
 simp only [Tryz.f75,qR,List.map_cons,List.map_nil]
 refine rgn [] [[],[0,1]] ?_
 iterate 2 refine op1 tok ?_
 refine qA (rgn [] [[]] ?_)
 refine op1 tok ?_
 refine qP ?_
 refine qD.stepK [0,1] (zF rfl (zBJ bs) (by simp)) (by conv=>lhs; simp) rfl ?_
 refine qD.nil ?_
 refine rgn [] [[],[],[],[],[1,8,12],[],[],[],[1,14,16],[1]] ?_
 iterate 10 refine op1 tok ?_
 refine qA (rgn [] [[],[],[],[4,5]] ?_)
 iterate 4 refine op1 tok ?_
 refine qA ?_
 exact AW.ret zI
@[simp] theorem zGO:qH []=[]:=rfl
theorem qXY (r:Int) (l:List Int) (h:Lib.encodeRuneZ r=l):qH (Lib.encodeRune r)=l.map (PD.int .u8):=by
 subst h
 simp only [qH,Lib.encodeRune,List.map_map]
 apply List.map_congr_left
 intro x hx
 obtain ⟨h0,h1⟩:=Lib.encodeRuneZ_byte r x hx
 simp [Function.comp]
 omega
theorem qOO {k:Nat} {n:Int} (h:0≤n∧n<k):∃ x:Fin k,n=x.val:=⟨⟨n.toNat,by omega⟩,by simp; omega⟩
theorem zFB (n:Int) (h:0≤n):IntKind.u8.wrap n=n % 256:=by simp [IntKind.wrap,IntKind.bits,IntKind.signed]
theorem zDX (n:Int) (h:0≤n∧n<32):IntKind.u8.wrap ↑(192 % 2 ^ IntKind.u8.bits ||| (IntKind.u8.wrap n % 2 ^ IntKind.u8.bits).toNat)=192+n:=by
 obtain ⟨x,rfl⟩:=qOO h; revert x; decide +kernel
theorem qVX (n:Int) (h:0≤n∧n<16):IntKind.u8.wrap ↑(224 % 2 ^ IntKind.u8.bits ||| (IntKind.u8.wrap n % 2 ^ IntKind.u8.bits).toNat)=224+n:=by
 obtain ⟨x,rfl⟩:=qOO h; revert x; decide +kernel
theorem qVW (n:Int) (h:0≤n∧n<8):IntKind.u8.wrap ↑(240 % 2 ^ IntKind.u8.bits ||| (IntKind.u8.wrap n % 2 ^ IntKind.u8.bits).toNat)=240+n:=by
 obtain ⟨x,rfl⟩:=qOO h; revert x; decide +kernel
theorem zEJ:∀ x:Fin 256,IntKind.u8.wrap ↑(128 % 2 ^ IntKind.u8.bits ||| (IntKind.u8.wrap ↑((((x.val:Nat):Int) % 2 ^ IntKind.u8.bits).toNat &&& 63 % 2 ^ IntKind.u8.bits) % 2 ^ IntKind.u8.bits).toNat)=128+((x.val:Nat):Int) % 64:=by decide +kernel
theorem qBE (n:Int) (h:0≤n):IntKind.u8.wrap ↑(128 % 2 ^ IntKind.u8.bits ||| (IntKind.u8.wrap ↑((IntKind.u8.wrap n % 2 ^ IntKind.u8.bits).toNat &&& 63 % 2 ^ IntKind.u8.bits) % 2 ^ IntKind.u8.bits).toNat)=128+n % 64:=by
 rw [zFB n h]
 obtain ⟨x,hx⟩:=qOO (k:=256) (n:=n % 256) (by omega)
 rw [hx,zEJ x,← hx]
 omega
theorem qZI (r:Int):r.fdiv (2 ^ min 6 IntKind.i32.bits)=r / 64:=Int.fdiv_eq_ediv_of_nonneg _ (by decide)
theorem qQF (r:Int):r.fdiv (2 ^ min 12 IntKind.i32.bits)=r / 4096:=Int.fdiv_eq_ediv_of_nonneg _ (by decide)
theorem qQE (r:Int):r.fdiv (2 ^ min 18 IntKind.i32.bits)=r / 262144:=Int.fdiv_eq_ediv_of_nonneg _ (by decide)
theorem qPD (bs:List UInt8) (r:Int) (hb:bs.length≤100000000000) (h0:128≤r) (h1:r≤1114111) (h2:r<55296∨57343<r):AX Tryz.prog G 141 [.ms 3,.p (.int .i32 r)] [(3,.row 5 1 (qH bs))] (.ms 3) [] [(3,.row 5 1 (qH bs++qH (Lib.encodeRune r)))]:=by
 refine AX.introU tok 900 Tryz.func141 (by kernel_rfl) rfl rfl ?_
 simp only [Tryz.f141,qR,List.map_cons,List.map_nil]
 have hw:IntKind.u32.wrap r=r:=by simp [IntKind.wrap,IntKind.bits,IntKind.signed]; omega
 refine rgn [] [[0,1]] ?_
 refine op1 tok ?_
 refine qA (rgn [] [[],[],[0,1,5]] ?_)
 iterate 3 refine op1 tok ?_
 refine qA (AW.block (rgn [] [[],[],[0,1,5,11]] ?_))
 iterate 3 refine op1 tok ?_
 refine qA (cnd ?_ ?_)
 ·intro h11
  try simp at h11
  rw [qXY r _ (Lib.encodeRuneZ_two (by omega) (by omega))]
  refine rgn [.int .u8 (192+r / 64),.int .u8 (128+r % 64)] [[],[],[],[],[1,14,18],[],[],[],[14,18,22],[],[24],[4]] ?_
  iterate 12 refine op1 tok ?_ (hv:=by first | with_reducible exact True.intro | (simp only [qZI,qQF,qQE]; exact ⟨zDX _ (by omega),qBE _ (by omega)⟩; done) | omega | simp | (simp +contextual; omega))
  refine qA ?_
  exact AW.ret zI
 intro h11
 try simp at h11
 refine AW.seq (rgn [] [[],[],[0,1,5,25]] ?_)
 iterate 3 refine op1 tok ?_
 refine qA (cnd ?_ ?_)
 ·intro h25
  try simp at h25
  refine AW.skip (cnd ?_ ?_)
  ·intro h25
   try simp at h25
   rw [qXY r _ (Lib.encodeRuneZ_three (by omega))]
   refine rgn [.int .u8 (224+r / 4096),.int .u8 (128+r / 64 % 64),.int .u8 (128+r % 64)] [[],[],[],[],[1,34,38],[],[],[],[],[1,34,38,43],[],[],[],[34,38,43,47],[],[49],[4]] ?_
   iterate 17 refine op1 tok ?_ (hv:=by first | with_reducible exact True.intro | (simp only [qZI,qQF,qQE]; exact ⟨qVX _ (by omega),qBE _ (by omega),qBE _ (by omega)⟩; done) | omega | simp | (simp +contextual; omega))
   refine qA ?_
   exact AW.ret zI
  intro h25
  try simp at h25
  refine rgn [] [[],[],[],[],[0,1,53,55],[],[0,1,50]] ?_
  iterate 3 refine op1 tok ?_
  iterate 2 refine op2 tok ?_
  iterate 2 refine op1 tok ?_
  refine qA (cnd ?_ ?_)
  ·intro h50
   try simp at h50
   rw [qXY r _ (Lib.encodeRuneZ_four (by omega) (by omega))]
   refine rgn [.int .u8 (240+r / 262144),.int .u8 (128+r / 4096 % 64),.int .u8 (128+r / 64 % 64),.int .u8 (128+r % 64)] [[],[],[],[],[1,57,61],[],[],[],[],[1,57,61,66],[],[],[],[],[1,57,61,66,71],[],[],[],[57,61,66,71,75],[57,76],[],[4]] ?_
   iterate 22 refine op1 tok ?_ (hv:=by first | with_reducible exact True.intro | (simp only [qZI,qQF,qQE]; exact ⟨qVW _ (by omega),qBE _ (by omega),qBE _ (by omega),qBE _ (by omega)⟩; done) | omega | simp | (simp +contextual; omega))
   refine qA ?_
   exact AW.ret zI
  intro h50
  try simp at h50
  omega
 intro h25
 try simp at h25
 refine rgz [] [[],[],[],[],[],[0,1,5,33],[0,1,5,25]] ?_
 iterate 3 refine op1 tok ?_
 iterate 2 refine op2 tok ?_
 iterate 2 refine op1 tok ?_
 refine qA (cnd ?_ ?_)
 ·intro h25
  try simp at h25
  rw [qXY r _ (Lib.encodeRuneZ_three (by omega))]
  refine rgn [.int .u8 (224+r / 4096),.int .u8 (128+r / 64 % 64),.int .u8 (128+r % 64)] [[],[],[],[],[1,34,38],[],[],[],[],[1,34,38,43],[],[],[],[34,38,43,47],[],[49],[4]] ?_
  iterate 17 refine op1 tok ?_ (hv:=by first | with_reducible exact True.intro | (simp only [qZI,qQF,qQE]; exact ⟨qVX _ (by omega),qBE _ (by omega),qBE _ (by omega)⟩; done) | omega | simp | (simp +contextual; omega))
  refine qA ?_
  exact AW.ret zI
 intro h25
 try simp at h25
 refine rgn [] [[],[],[],[],[0,1,53,55],[],[0,1,50]] ?_
 iterate 3 refine op1 tok ?_
 iterate 2 refine op2 tok ?_
 iterate 2 refine op1 tok ?_
 refine qA (cnd ?_ ?_)
 ·intro h50
  try simp at h50
  rw [qXY r _ (Lib.encodeRuneZ_four (by omega) (by omega))]
  refine rgn [.int .u8 (240+r / 262144),.int .u8 (128+r / 4096 % 64),.int .u8 (128+r / 64 % 64),.int .u8 (128+r % 64)] [[],[],[],[],[1,57,61],[],[],[],[],[1,57,61,66],[],[],[],[],[1,57,61,66,71],[],[],[],[57,61,66,71,75],[57,76],[],[4]] ?_
  iterate 22 refine op1 tok ?_ (hv:=by first | with_reducible exact True.intro | (simp only [qZI,qQF,qQE]; exact ⟨qVW _ (by omega),qBE _ (by omega),qBE _ (by omega),qBE _ (by omega)⟩; done) | omega | simp | (simp +contextual; omega))
  refine qA ?_
  exact AW.ret zI
 intro h50
 try simp at h50
 omega
theorem qCR (bs:List UInt8) (r:Int) (hb:bs.length≤100000000000) (h0:0≤r) (h1:r≤1114111) (h2:r<55296∨57343<r):AX Tryz.prog G 108 [.ms 3,.p (.int .i32 r)] [(3,.row 5 1 (qH bs))] (.ms 3) [] [(3,.row 5 1 (qH bs++qH (Lib.encodeRune r)))]:=by
 refine AX.introU tok 900 Tryz.func108 (by kernel_rfl) rfl rfl ?_
 simp only [Tryz.f108,qR,List.map_cons,List.map_nil]
 have hw:IntKind.u32.wrap r=r:=by simp [IntKind.wrap,IntKind.bits,IntKind.signed]; omega
 have hw8:=zFB r h0
 refine rgn [] [[0,1]] ?_
 refine op1 tok ?_
 refine qA (AW.seq (rgn [] [[],[],[0,1,7]] ?_))
 iterate 3 refine op1 tok ?_
 refine qA (cnd ?_ ?_)
 ·intro h7
  try simp at h7
  rw [qXY r _ (Lib.encodeRuneZ_one (by omega) (by omega))]
  refine rgn [.int .u8 r] [[],[],[],[8,11],[],[4]] ?_
  iterate 6 refine op1 tok ?_ (hv:=by first | with_reducible exact True.intro | ((rw [hw8]; omega); done) | omega | simp | (simp +contextual; omega))
  refine qA ?_
  exact AW.ret zI
 intro h7
 try simp at h7
 refine AW.skip (rgn [] [[],[]] ?_)
 iterate 2 refine op1 tok ?_
 refine qP ?_
 refine qD.stepK [15] (zF rfl (qPD bs r hb (by omega) h1 h2) (by simp)) (by conv=>lhs; simp) rfl ?_
 refine qD.run [[4]] ?_
 refine op1 tok ?_
 refine qA ?_
 exact AW.ret zI
theorem qCP (bs:List UInt8) (r:Int) (hb:bs.length≤100000000000) (h0:0≤r) (h1:r≤1114111) (h2:r<55296∨57343<r):AX Tryz.prog G 74 [.ptr 2 0,.p (.int .i32 r)] [(2,.vars 111 [.p .nilp,.ms 3]),(3,.row 5 1 (qH bs))] (.dead) [2] [(2,.vars 111 [.ptr 2 0,.ms 3]),(3,.row 5 1 (qH bs++qH (Lib.encodeRune r)))]:=by
 refine AX.introU tok 900 Tryz.func74 (by kernel_rfl) rfl rfl ?_
 simp only [Tryz.f74,qR,List.map_cons,List.map_nil]
 have hel:(Lib.encodeRune r).length≤4:=by simp only [Lib.encodeRune,List.length_map]; exact (Lib.encodeRuneZ_length r).2
 refine rgn [] [[],[0,1]] ?_
 iterate 2 refine op1 tok ?_
 refine qA (rgn [] [[]] ?_)
 refine op1 tok ?_
 refine qP ?_
 refine qD.stepK [0,1] (zF rfl (qUI bs) (by simp)) (by conv=>lhs; simp) rfl ?_
 refine qD.nil ?_
 refine rgn [] [[],[],[],[],[0,1,13],[0,1,6]] ?_
 iterate 6 refine op1 tok ?_
 refine qA (rgn [] [[],[],[],[],[],[0,6,14,18,19]] ?_)
 iterate 6 refine op1 tok ?_
 refine qP ?_
 refine qD.stepK [0,6,14,20] (zF rfl (qCR bs r hb h0 h1 h2) (by simp)) (by conv=>lhs; simp) rfl ?_
 refine qD.run [[],[],[0,6]] ?_
 iterate 3 refine op1 tok ?_
 refine qA (rgn [] [[],[],[],[6,26],[],[],[29],[],[4,5]] ?_)
 iterate 9 refine op1 tok ?_
 refine qA ?_
 exact AW.ret zI
theorem jL (bs:List UInt8) (r:Int) (hb:bs.length≤100000000000) (h0:0≤r) (h1:r≤1114111) (h2:r<55296∨57343<r):AX Tryz.prog G 74 [.ptr 2 0,.p (.int .i32 r)] [(2,.vars 111 [.ptr 2 0,.ms 3]),(3,.row 5 1 (qH bs))] (.dead) [2] [(2,.vars 111 [.ptr 2 0,.ms 3]),(3,.row 5 1 (qH bs++qH (Lib.encodeRune r)))]:=by
 refine AX.introU tok 900 Tryz.func74 (by kernel_rfl) rfl rfl ?_
 simp only [Tryz.f74,qR,List.map_cons,List.map_nil]
 have hel:(Lib.encodeRune r).length≤4:=by simp only [Lib.encodeRune,List.length_map]; exact (Lib.encodeRuneZ_length r).2
 refine rgn [] [[],[0,1]] ?_
 iterate 2 refine op1 tok ?_
 refine qA (rgn [] [[]] ?_)
 refine op1 tok ?_
 refine qP ?_
 refine qD.stepK [0,1] (zF rfl (zBJ bs) (by simp)) (by conv=>lhs; simp) rfl ?_
 refine qD.nil ?_
 refine rgn [] [[],[],[],[],[0,1,13],[0,1,6]] ?_
 iterate 6 refine op1 tok ?_
 refine qA (rgn [] [[],[],[],[],[],[0,6,14,18,19]] ?_)
 iterate 6 refine op1 tok ?_
 refine qP ?_
 refine qD.stepK [0,6,14,20] (zF rfl (qCR bs r hb h0 h1 h2) (by simp)) (by conv=>lhs; simp) rfl ?_
 refine qD.run [[],[],[0,6]] ?_
 iterate 3 refine op1 tok ?_
 refine qA (rgn [] [[],[],[],[6,26],[],[],[29],[],[4,5]] ?_)
 iterate 9 refine op1 tok ?_
 refine qA ?_
 exact AW.ret zI
theorem zCC (bs:List UInt8):AX Tryz.prog G 106 [.ptr 2 0] [(2,.vars 111 [.p .nilp,.ms 3]),(3,.row 5 1 (qH bs))] (.p (.int .i64 bs.length)) [2,3] [(2,.vars 111 [.p .nilp,.ms 3]),(3,.row 5 1 (qH bs))]:=by
 refine AX.introU tok 900 Tryz.func106 (by kernel_rfl) rfl rfl ?_
 simp only [Tryz.f106,qR,List.map_cons,List.map_nil]
 refine rgn [] [[0]] ?_
 refine op1 tok ?_
 refine qA (rgn [] [[],[],[],[6],[],[2]] ?_)
 iterate 6 refine op1 tok ?_
 refine qA ?_
 exact AW.ret zI
theorem zEY (bs:List UInt8):AX Tryz.prog G 106 [.ptr 2 0] [(2,.vars 111 [.ptr 2 0,.ms 3]),(3,.row 5 1 (qH bs))] (.p (.int .i64 bs.length)) [2,3] [(2,.vars 111 [.ptr 2 0,.ms 3]),(3,.row 5 1 (qH bs))]:=by
 refine AX.introU tok 900 Tryz.func106 (by kernel_rfl) rfl rfl ?_
 simp only [Tryz.f106,qR,List.map_cons,List.map_nil]
 refine rgn [] [[0]] ?_
 refine op1 tok ?_
 refine qA (rgn [] [[],[],[],[6],[],[2]] ?_)
 iterate 6 refine op1 tok ?_
 refine qA ?_
 exact AW.ret zI
theorem vL (l:List UInt8):(Lib.decodeL l).1≤1114111:=qES _ _
theorem qCQ (hG:U8 G) (s:List UInt8) (hs:s≠[]):AFn Tryz.prog G 87 [.str s] (.tup [.int .i32 (Lib.decodeL s).1,.int .i64 (Lib.decodeL s).2]):=by
 refine AFn.of_calls (kH Tryz.func87 (by kernel_rfl) rfl) fun M w vs hg hmem hsz hrd => ?_
 obtain ⟨b,rfl,rfl,hm⟩:=qPC hsz hrd
 refine (Any.utf8_DecodeRuneInString Tryz.lays197 b w (qVB hG hg hmem)).mono ?_
 rintro e w' ⟨rfl,hb⟩
 have h0:b.size≠0:=fun h=>hs (List.eq_nil_of_length_eq_zero (by simpa using h))
 have e:Lib.decodeGo b=Lib.decodeL b.data.toList:=by
  unfold Lib.decodeGo Lib.decodeL
  rw [if_neg h0]
 rw [e]
 have h1:=vL b.data.toList
 have h2:=Lib.decodeL_le b.data.toList hs
 have h3:b.data.toList.length≤maxLen:=by simpa using hm
 refine ⟨_,rfl,.tup rfl fun i u d hu hd => ?_,hb⟩
 match i,hu,hd with
 | 0,hu,hd=>simp at hu hd; subst hu; subst hd; exact .int (by rw [kK]; simp only [yQ]; omega) (by rw [yY]; simp only [yR]; omega)
 | 1,hu,hd=>simp at hu hd; subst hu; subst hd; exact .int (by rw [kK]; simp only [yQ]; omega) (by rw [yY]; simp only [yR]; unfold maxLen at h3; omega)
 | i+2,hu,hd=>simp at hu
theorem qXZ (s:List UInt8) (pos:Nat):xM s pos=Lib.decodeL (s.drop pos):=by
 unfold xM Lib.decodeL
 rw [Lib.decode_at,Lib.decode_at]
 have g:∀ k,(⟨s.toArray⟩:ByteArray).get! (pos+k)=(⟨(s.drop pos).toArray⟩:ByteArray).get! (0+k):=by
  intro k
  show s.toArray[pos+k]! = (s.drop pos).toArray[0+k]!
  simp
 have g0:=g 0
 have g1:=g 1
 have g2:=g 2
 have g3:=g 3
 simp only [Nat.add_zero,Nat.zero_add] at g0 g1 g2 g3
 have hsz:(⟨s.toArray⟩:ByteArray).size-pos=(⟨(s.drop pos).toArray⟩:ByteArray).size-0:=by simp [ByteArray.size]
 rw [hsz,g0,g1,g2,g3]
def qC (r:Nat):List UInt8 :=
 if r=34∨r=92 then 92::Lib.encodeRune r else if r=10 then [92,110] else if r=13 then [92,114] else if r=9 then [92,116]
 else if 32≤r∧r≠127 then Lib.encodeRune r else [92,117,48,48,vC (r / 16),vC (r % 16)]
theorem qDK (l:List UInt8):(Lib.decodeL l).1<55296∨57343<(Lib.decodeL l).1:=by
 rw [xA l]
 unfold Lib.decodeN
 have:=(l.getD 0 0).toNat_lt
 repeat' split
 all_goals simp only
 all_goals omega
theorem zJR (b:UInt8) (h:b.toNat<128):qC b.toNat=qb b:=by
 have henc:=qJD h
 have key:∀ k:Fin 128,(k.val=34∨k.val=92)=(UInt8.ofNat k.val=34∨UInt8.ofNat k.val=92)∧(k.val=10)=(UInt8.ofNat k.val=10)∧(k.val=13)=(UInt8.ofNat k.val=13)∧(k.val=9)=(UInt8.ofNat k.val=9)∧(¬ (32≤k.val∧k.val≠127))=(UInt8.ofNat k.val<32∨UInt8.ofNat k.val=127):=by decide +kernel
 have k:=key ⟨b.toNat,h⟩
 simp only [UInt8.ofNat_toNat] at k
 obtain ⟨k1,k2,k3,k4,k5⟩:=k
 unfold qC qb
 rw [henc]
 simp only [k1,k2,k3,k4,← k5]
 split
 ·rfl
 split
 ·rfl
 split
 ·rfl
 split
 ·rfl
 split
 ·rfl
 rfl
theorem zFW (r:Nat) (h:128≤r):qC r=Lib.encodeRune r:=by
 unfold qC
 rw [if_neg (by omega),if_neg (by omega),if_neg (by omega),if_neg (by omega),if_pos (by omega)]
theorem qSZ {l:List UInt8} (hne:l≠[]) (hv:Lib.validD l=true):yB l=qC (Lib.decodeL l).1++yB (l.drop (Lib.decodeL l).2)∧Lib.validD (l.drop (Lib.decodeL l).2)=true:=by
 obtain ⟨b,t,rfl⟩:∃ b t,l=b::t:=by cases l with
  | nil=>exact absurd rfl hne
  | cons b t=>exact ⟨b,t,rfl⟩
 by_cases hb:b.toNat<128
 ·rw [uZ hb,zJR b hb]
  rw [Lib.validD_cons b t hb] at hv
  exact ⟨rfl,hv⟩
 rw [Lib.validD_step _ hne] at hv
 split at hv
 ·cases hv
 rename_i hok
 obtain ⟨h1,h2⟩:=qMZ (b::t) hne hok (by simpa using by omega)
 have henc:=Lib.encode_decode (b::t) hne hok
 refine ⟨?_,hv⟩
 rw [zFW _ h2,henc]
 conv=>lhs; rw [← List.take_append_drop (Lib.decodeL (b::t)).2 (b::t)]
 rw [qEC,qLT h1]
theorem zFV (r:Nat):(qC r).length≤6:=by
 have:=(Lib.encodeRuneZ_length r).2
 unfold qC
 have h:(Lib.encodeRune r).length≤4:=by simpa only [Lib.encodeRune,List.length_map] using this
 repeat' split
 all_goals simp <;> omega
theorem zJX:∀ k:Fin 16,([48,49,50,51,52,53,54,55,56,57,97,98,99,100,101,102]:List UInt8)[k.val]?=some (vC k.val):=by decide +kernel
theorem zKD:∀ k:Fin 128,IntKind.i32.wrap ↑(k.val % 2 ^ IntKind.i32.bits &&& 15 % 2 ^ IntKind.i32.bits)=((k.val % 16:Nat):Int):=by decide +kernel
theorem zLP (r:Nat):(r:Int).fdiv (2 ^ min 4 IntKind.i32.bits)=((r / 16:Nat):Int):=(Int.fdiv_eq_ediv_of_nonneg _ (by decide)).trans (by show (r:Int) / 16=_; omega)
theorem qSH (s:List UInt8) (hv:Lib.validD s=true) (hs:s.length≤1000000000):AFn Tryz.prog G 41 [.str s] (.str (zK s)):=by
 refine AFn.introU tok Tryz.func41 (by kernel_rfl) rfl rfl ?_
 simp only [Tryz.f41,qR,List.map_cons,List.map_nil]
 refine rgn [] [[0]] ?_
 refine op1 tok ?_
 refine qA (rgn [] [[]] ?_)
 refine op1 tok ?_
 refine qA ?_
 refine AW.renE 3 2 (by simp) (by conv=>lhs; simp) ?_
 refine AW.beginBox 2 3 1 5 1 (by simp; exact ⟨rfl,rfl⟩) (by simp) (by simp) (by conv=>lhs; simp) ?_
 refine AW.seqRegionO [] ?_
 refine qD.stepK [0,3] (zF rfl (qLC [] 34 (by simp)) (by simp)) (by conv=>lhs; simp) rfl ?_
 refine qD.nil ?_
 refine AW.seq (rgn [] [[],[3,8]] ?_)
 iterate 2 refine op1 tok ?_
 refine qA (AW.block ?_)
 refine AW.loop (α:=Nat × List UInt8) (fun a=>a.1≤s.length∧Lib.validD (s.drop a.1)=true∧zK s=a.2++(yB (s.drop a.1)++[34])∧a.2.length≤6 * a.1+1) (fun a=>⟨zR 47 [(3,.ptr 2 0),(8,.it 8)],[],[(2,.vars 111 [.ptr 2 0,.ms 3]),(3,.row 5 1 (qH a.2)),(8,.iter s a.1)],0⟩) (fun a=>s.length-a.1) ((0,[34])) ⟨by simp,by simpa using hv,by simp [zK],by simp⟩ ⟨qJ (by simp),rfl,by simp,by simp⟩ ?_
 rintro ⟨pos,out⟩ ⟨hp,hvp,hq,hol⟩
 simp only at hp hvp hq hol
 by_cases hs4:pos<s.length
 ·
  refine rgn [.bool true] [[],[]] ?_
  iterate 2 refine oq1 tok hs4 ?_
  refine qA (AW.seq (cnd ?_ ?_))
  ·intro h10
   try simp at h10
   have hne:s.drop pos≠[]:=by intro e; have:=congrArg List.length e; simp at this; omega
   obtain ⟨hst,hvn⟩:=qSZ hne hvp
   have hok:=qDK (s.drop pos)
   have hmx:=vL (s.drop pos)
   have hwl:=Lib.decodeL_le (s.drop pos) hne
   rw [← qXZ] at hst hvn hok hmx hwl
   rw [List.length_drop] at hwl
   rw [List.drop_drop] at hst hvn
   have hdp:=qEU hs4
   generalize xM s pos=p at *
   obtain ⟨r,w⟩:=p
   simp only at *
   have hlen:=zFV r
   have hnext:zK s=out++qC r++(yB (s.drop (pos+w))++[34]):=by rw [hq,hst]; simp
   refine AW.skip (AW.block (rgn [] [[],[3,5,8]] ?_))
   iterate 2 refine op1 tok ?_
   refine qA (rgn [] [[]] ?_)
   refine op1 tok ?_
   refine qA (AW.block (AW.seq (rgn [] [[],[3,5,8,12,30]] ?_)))
   iterate 2 refine op1 tok ?_
   refine qA (cnd ?_ ?_)
   ·intro h30
    try simp at h30
    refine AW.skip (cnd ?_ ?_)
    ·intro h30
     try simp at h30
     refine AW.seqRegionO [] ?_
     refine qD.stepK [3,5,8] (zF rfl (jM out 92 (by omega)) (by simp)) (by conv=>lhs; simp) rfl ?_
     refine qD.nil ?_
     have hqc:qC r=92::Lib.encodeRune r:=by unfold qC; rw [if_pos (by omega)]
     refine rgz [] [[]] ?_
     refine op1 tok ?_
     refine qP ?_
     refine qD.stepK [3,8] (zF rfl (jL (out++[92]) r (by simp; omega) (by omega) (by omega) (by omega)) (by simp)) (by conv=>lhs; simp) rfl ?_
     refine qD.nil ?_
     exact ⟨(pos+w,out++qC r),⟨by simp only []; omega,hvn,hnext,by simp; omega⟩,by simp only []; omega,qJ (by simp [hqc,qH]),rfl,by simp [hqc,qH],by simp [hqc,qH]⟩
    intro h30
    try simp at h30
    omega
   intro h30
   try simp at h30
   refine rgz [] [[],[3,5,8,12,30]] ?_
   iterate 2 refine op1 tok ?_
   refine qA (cnd ?_ ?_)
   ·intro h30
    try simp at h30
    refine AW.seqRegionO [] ?_
    refine qD.stepK [3,5,8] (zF rfl (jM out 92 (by omega)) (by simp)) (by conv=>lhs; simp) rfl ?_
    refine qD.nil ?_
    have hqc:qC r=92::Lib.encodeRune r:=by unfold qC; rw [if_pos (by omega)]
    refine rgz [] [[]] ?_
    refine op1 tok ?_
    refine qP ?_
    refine qD.stepK [3,8] (zF rfl (jL (out++[92]) r (by simp; omega) (by omega) (by omega) (by omega)) (by simp)) (by conv=>lhs; simp) rfl ?_
    refine qD.nil ?_
    exact ⟨(pos+w,out++qC r),⟨by simp only []; omega,hvn,hnext,by simp; omega⟩,by simp only []; omega,qJ (by simp [hqc,qH]),rfl,by simp [hqc,qH],by simp [hqc,qH]⟩
   intro h30
   try simp at h30
   refine rgn [] [[],[3,5,8,12,36]] ?_
   iterate 2 refine op1 tok ?_
   refine qA (cnd ?_ ?_)
   ·intro h36
    try simp at h36
    have hqc:qC r=[92,110]:=by unfold qC; rw [if_neg (by omega),if_pos (by omega)]
    refine AW.regionO [] ?_
    refine qD.stepK [3,8] (zF rfl (jK out [92,110] (by omega) (by simp)) (by simp)) (by conv=>lhs; simp) rfl ?_
    refine qD.nil ?_
    exact ⟨(pos+w,out++qC r),⟨by simp only []; omega,hvn,hnext,by simp; omega⟩,by simp only []; omega,qJ (by simp [hqc,qH]),rfl,by simp [hqc,qH],by simp [hqc,qH]⟩
   intro h36
   try simp at h36
   refine rgn [] [[],[3,5,8,12,39]] ?_
   iterate 2 refine op1 tok ?_
   refine qA (cnd ?_ ?_)
   ·intro h39
    try simp at h39
    have hqc:qC r=[92,114]:=by unfold qC; rw [if_neg (by omega),if_neg (by omega),if_pos (by omega)]
    refine AW.regionO [] ?_
    refine qD.stepK [3,8] (zF rfl (jK out [92,114] (by omega) (by simp)) (by simp)) (by conv=>lhs; simp) rfl ?_
    refine qD.nil ?_
    exact ⟨(pos+w,out++qC r),⟨by simp only []; omega,hvn,hnext,by simp; omega⟩,by simp only []; omega,qJ (by simp [hqc,qH]),rfl,by simp [hqc,qH],by simp [hqc,qH]⟩
   intro h39
   try simp at h39
   refine rgn [] [[],[3,5,8,42]] ?_
   iterate 2 refine op1 tok ?_
   refine qA (cnd ?_ ?_)
   ·intro h42
    try simp at h42
    have hqc:qC r=[92,116]:=by unfold qC; rw [if_neg (by omega),if_neg (by omega),if_neg (by omega),if_pos (by omega)]
    refine AW.regionO [] ?_
    refine qD.stepK [3,8] (zF rfl (jK out [92,116] (by omega) (by simp)) (by simp)) (by conv=>lhs; simp) rfl ?_
    refine qD.nil ?_
    exact ⟨(pos+w,out++qC r),⟨by simp only []; omega,hvn,hnext,by simp; omega⟩,by simp only []; omega,qJ (by simp [hqc,qH]),rfl,by simp [hqc,qH],by simp [hqc,qH]⟩
   intro h42
   try simp at h42
   refine AW.seq (rgn [] [[],[],[],[],[],[3,5,8,18]] ?_)
   iterate 3 refine op1 tok ?_
   iterate 2 refine op2 tok ?_
   refine op1 tok ?_
   refine qA (cnd ?_ ?_)
   ·intro h18
    try simp at h18
    have hqc:qC r=Lib.encodeRune r:=by unfold qC; rw [if_neg (by omega),if_neg (by omega),if_neg (by omega),if_neg (by omega),if_pos (by omega)]
    refine rgn [] [[]] ?_
    refine op1 tok ?_
    refine qP ?_
    refine qD.stepK [3,8] (zF rfl (jL out r (by omega) (by omega) (by omega) (by omega)) (by simp)) (by conv=>lhs; simp) rfl ?_
    refine qD.nil ?_
    refine AW.exit ?_
    simp
    exact ⟨pos+w,out++qC r,⟨by omega,hvn,by simpa using hnext,by simp; omega⟩,by omega,qJ (by simp [hqc,qH]),rfl,by simp [hqc,qH],by simp [hqc,qH]⟩
   intro h18
   try simp at h18
   refine AW.skip ?_
   have hqc:qC r=[92,117,48,48,vC (r / 16),vC (r % 16)]:=by unfold qC; rw [if_neg (by omega),if_neg (by omega),if_neg (by omega),if_neg (by omega),if_neg (by omega)]
   refine AW.seqRegionO [] ?_
   refine qD.stepK [3,5,8] (zF rfl (jK out [92,117,48,48] (by omega) (by simp)) (by simp)) (by conv=>lhs; simp) rfl ?_
   refine qD.nil ?_
   refine rgn [.int .u8 (vC (r / 16)).toNat] [[],[],[]] ?_
   iterate 3 refine op1 tok ?_ (hv:=by first | with_reducible exact True.intro | (rw [zLP]; exact ⟨by omega,_,zJX ⟨r / 16,by omega⟩,rfl⟩; done) | omega | simp | (simp +contextual; omega))
   refine qP ?_
   refine qD.stepK [3,5,8] (zF rfl (jM (out++[92,117,48,48]) (vC (r / 16)) (by simp; omega)) (by simp)) (by conv=>lhs; simp) rfl ?_
   refine qD.nil ?_
   refine rgz [.int .u8 (vC (r % 16)).toNat] [[],[],[]] ?_
   iterate 3 refine op1 tok ?_ (hv:=by first | with_reducible exact True.intro | (rw [zKD ⟨r,by omega⟩]; exact ⟨by omega,_,zJX ⟨r % 16,by omega⟩,rfl⟩; done) | omega | simp | (simp +contextual; omega))
   refine qP ?_
   refine qD.stepK [3,8] (zF rfl (jM (out++[92,117,48,48,vC (r / 16)]) (vC (r % 16)) (by simp; omega)) (by simp)) (by conv=>lhs; simp) rfl ?_
   refine qD.nil ?_
   exact ⟨(pos+w,out++qC r),⟨by simp only []; omega,hvn,hnext,by simp; omega⟩,by simp only []; omega,qJ (by simp [hqc,qH]),rfl,by simp [hqc,qH],by simp [hqc,qH]⟩
  intro h10
  try simp at h10
 ·
  refine rgn [.bool false] [[],[]] ?_
  iterate 2 refine oq1 tok hs4 ?_
  refine qA (AW.seq (cnd ?_ ?_))
  ·intro h10
   try simp at h10
  intro h10
  try simp at h10
  refine AW.exit ?_
  simp
  obtain rfl:pos=s.length:=by omega
  simp only [List.drop_length,yB,List.flatMap_nil,List.nil_append] at hq
  refine AW.seqRegionO [] ?_
  refine qD.stepK [3] (zF rfl (jM out 34 (by omega)) (by simp)) (by conv=>lhs; simp) rfl ?_
  refine qD.nil ?_
  refine AW.seqRegionO [] ?_
  refine qD.stepK [46] (zF rfl (qNA (out++[34])) (by simp)) (by conv=>lhs; simp) rfl ?_
  refine qD.run [[2]] ?_
  refine op1 tok ?_
  refine qA ?_
  exact AW.ret (qZ (k:=by simp [hq]))
def upC (c:UInt8):UInt8:=if 65≤c∧c≤70 then c+32 else c
def qXV:List UInt8:=[48,49,50,51,52,53,54,55,56,57,97,98,99,100,101,102]
theorem zEB:∀ k:Fin 256,Lib.indexByte qXV (upC (UInt8.ofNat k.val))=match qOL (UInt8.ofNat k.val) with | none => -1 | some n=>(n:Int):=by decide +kernel
theorem zAN (c:UInt8):Lib.indexByte qXV (upC c)=match qOL c with | none => -1 | some n=>(n:Int):=by
 have:=zEB ⟨c.toNat,c.toNat_lt⟩
 simpa using this
theorem qWA {c:UInt8} {n:Nat} (h:qOL c=some n):n<16:=by
 unfold qOL at h
 have h0:=c.toNat_lt
 split at h
 ·rename_i h1; cases h; rw [UInt8.le_iff_toNat_le,UInt8.le_iff_toNat_le] at h1; simp at h1; omega
 split at h
 ·rename_i h1; cases h; rw [UInt8.le_iff_toNat_le,UInt8.le_iff_toNat_le] at h1; simp at h1; omega
 split at h
 ·rename_i h1; cases h; rw [UInt8.le_iff_toNat_le,UInt8.le_iff_toNat_le] at h1; simp at h1; omega
 cases h
theorem qYW {c:UInt8} (h:65≤(c.toNat:Int)∧(c.toNat:Int)≤70):IntKind.u8.wrap ((c.toNat:Int)+32)=((upC c).toNat:Int):=by
 have key:∀ k:Fin 256,65≤k.val∧k.val≤70→IntKind.u8.wrap ((k.val:Int)+32)=((upC (UInt8.ofNat k.val)).toNat:Int):=by decide +kernel
 have:=key ⟨c.toNat,c.toNat_lt⟩ (by simp only []; omega)
 simpa using this
theorem qYX {c:UInt8} (h:¬ (65≤(c.toNat:Int)∧(c.toNat:Int)≤70)):upC c=c:=by
 unfold upC
 rw [if_neg]
 rw [UInt8.le_iff_toNat_le,UInt8.le_iff_toNat_le]
 simp; omega
theorem qTL {x k:Nat} (hx:x<4096) (hk:k<16):IntKind.i32.wrap ↑((IntKind.i32.wrap (↑x * 2 ^ min 4 IntKind.i32.bits) % 2 ^ IntKind.i32.bits).toNat ||| (IntKind.i32.wrap ↑k % 2 ^ IntKind.i32.bits).toNat)=((16 * x+k:Nat):Int):=by
 have hw:∀ n:Nat,n<70000→IntKind.i32.wrap (n:Int)=n:=fun n h=>by simp [IntKind.wrap,IntKind.bits,IntKind.signed]; omega
 have e1:(x:Int) * 2 ^ min 4 IntKind.i32.bits=((16 * x:Nat):Int):=by show (x:Int) * 16=_; omega
 have e2:∀ n:Nat,n<70000→(((n:Int)) % 2 ^ IntKind.i32.bits).toNat=n:=fun n h=>by show ((n:Int) % 4294967296).toNat=n; omega
 rw [e1,hw (16 * x) (by omega),hw k (by omega),e2 (16 * x) (by omega),e2 k (by omega)]
 have:16 * x ||| k=16 * x+k:=by
  have:=Nat.shiftLeft_add_eq_or_of_lt (i:=4) (b:=k) hk x
  rw [Nat.shiftLeft_eq] at this
  rw [show 16 * x=x * 2 ^ 4 by omega]
  exact this.symm
 rw [this,hw (16 * x+k) (by omega)]
theorem qVA (s:List UInt8):AFn Tryz.prog G 164 [.str s] (.tup [.int .i32 ((wE s).getD 0:Nat),.bool (wE s).isSome]):=by
 refine AFn.introU tok Tryz.func164 (by kernel_rfl) rfl rfl ?_
 simp only [Tryz.f164,qR,List.map_cons,List.map_nil]
 have hw32:∀ n:Int,0≤n→n≤1000000→IntKind.i32.wrap n=n:=fun n h1 h2=>by simp [IntKind.wrap,IntKind.bits,IntKind.signed]; omega
 refine rgn [] [[],[0]] ?_
 iterate 2 refine op1 tok ?_
 refine qA (AW.seq (rgn [] [[],[],[],[],[],[0,11,13],[],[0,15]] ?_))
 iterate 4 refine op1 tok ?_
 iterate 3 refine op2 tok ?_
 refine op1 tok ?_
 refine qA (cnd ?_ ?_)
 ·intro h15
  try simp at h15
  have hu:wE s=none:=by
   unfold wE; rw [if_pos (h15.imp (fun h=>by omega) id)]
  refine rgn [] [[],[]] ?_
  iterate 2 refine op1 tok ?_
  refine qA ?_
  exact AW.ret (qZ (k:=by simp [hu]))
 intro h15
 try simp at h15
 have hu:wE s=qFT ((s.drop 2).take 4) 0:=by
  unfold wE; rw [if_neg (fun h=>h.elim (fun h=>by omega) (fun h=>h h15.2))]
 rw [hu]
 have htl:(s.take 6).drop 2=(s.drop 2).take 4:=by rw [List.drop_take]
 have hlen:((s.drop 2).take 4).length=4:=by simp; omega
 refine AW.skip (rgn [] [[]] ?_)
 refine op1 tok ?_
 refine qA (AW.seq (rgn [] [[],[],[],[],[4,18,19,20]] ?_))
 iterate 5 refine op1 tok ?_ (hv:=by first | with_reducible exact True.intro | (omega; done) | omega | simp | (simp +contextual; omega))
 refine qA (AW.block ?_)
 rw [htl]; generalize (s.drop 2).take 4=tl at *
 refine AW.loop (α:=Nat × Nat) (fun a=>a.1≤4∧qFT (tl.drop a.1) a.2=qFT tl 0∧a.2<16 ^ a.1) (fun a=>⟨zR 43 [(4,.p (.int .i32 a.2)),(18,.p (.sl 1 (qH tl))),(19,.p (.int .i64 4)),(20,.p (.int .i64 a.1))],[],[],0⟩) (fun a=>4-a.1) ((0,0)) ⟨by omega,rfl,by decide⟩ ⟨qJ (by simp; omega),rfl,by simp,by simp⟩ ?_
 rintro ⟨i,x⟩ ⟨hi,hx,hxl⟩
 simp only at hi hx hxl
 have hix:i<4→tl[i]?=some (tl.getD i 0):=fun h=>by simp [List.getD_eq_getElem?_getD,show i<tl.length by omega]
 refine rgn [] [[]] ?_
 refine op1 tok ?_
 refine qA (AW.seq (cnd ?_ ?_))
 ·intro h21
  try simp at h21
  have hxl2:x<4096:=Nat.lt_of_lt_of_le hxl (Nat.pow_le_pow_right (by omega) (show i≤3 by omega))
  have hc:=hix (by omega)
  generalize tl.getD i 0=c at *
  have hcl:=c.toNat_lt
  have hdr:tl.drop i=c::tl.drop (i+1):=by
   rw [List.drop_eq_getElem_cons (by omega)]; congr 1
   have:=List.getElem?_eq_getElem (l:=tl) (i:=i) (by omega)
   rw [hc] at this; exact (Option.some.inj this).symm
  have hstep:qFT tl 0=(match qOL c with | none=>none | some k=>qFT (tl.drop (i+1)) (16 * x+k)):=by rw [← hx,hdr]; rfl
  have hi2:=zAN c
  have hIB:AFn Tryz.prog G 146 [.str qXV,.int .u8 (upC c).toNat] (.int .i64 (Lib.indexByte qXV (upC c))):=by
   have:=qFD (G:=G) qXV ((upC c).toNat)
   simpa using this
  refine AW.skip (AW.seq (AW.block (rgn [.int .u8 c.toNat] [[],[],[4,6,18,19,20]] ?_)))
  iterate 3 refine op1 tok ?_ (hv:=by first | with_reducible exact True.intro | (simp [qH,hc]; done) | omega | simp | (simp +contextual; omega))
  refine qA ?_
  refine AW.join (α:=Unit) (fun _=>True) (fun a=>⟨zR 43 [(4,.p (.int .i32 x)),(6,.p (.int .u8 (upC c).toNat)),(18,.p (.sl 1 (qH tl))),(19,.p (.int .i64 4)),(20,.p (.int .i64 i))],[],[],0⟩) ?_ ?_
  ·
   refine rgn [] [[],[],[],[],[],[4,6,18,19,20,29]] ?_
   iterate 3 refine op1 tok ?_
   iterate 2 refine op2 tok ?_
   refine op1 tok ?_
   refine qA (cnd ?_ ?_)
   ·intro h29
    try simp at h29
    refine rgz [] [[],[],[4,6,18,19,20]] ?_
    iterate 3 refine op1 tok ?_
    refine qA ?_
    exact ⟨(),trivial,qJ (by simp [qYW h29]),rfl,by simp [qYW h29],by simp [qYW h29]⟩
   intro h29
   try simp at h29
   refine AW.skip ?_
   exact ⟨(),trivial,qJ (by simp [qYX (c:=c) (by omega)]),rfl,by simp [qYX (c:=c) (by omega)],by simp [qYX (c:=c) (by omega)]⟩
  ·
   rintro a hI
   refine rgn [.nilp,.int .i64 (Lib.indexByte qXV (upC c))] [[],[],[4,7,18,19,20]] ?_
   iterate 3 refine oq1 tok hIB ?_
   refine qA (AW.seq (rgn [] [[],[4,7,18,19,20,35]] ?_))
   iterate 2 refine op1 tok ?_
   refine qA (cnd ?_ ?_)
   ·intro h35
    try simp at h35
    have hn:qFT tl 0=none:=by
     rw [hstep]
     cases hk:qOL c with
     | none=>rfl
     | some k=>rw [hk] at hi2; simp only at hi2; omega
    refine rgn [] [[],[]] ?_
    iterate 2 refine op1 tok ?_
    refine qA ?_
    exact AW.ret (qZ (k:=by simp [hn]))
   intro h35
   try simp at h35
   obtain ⟨k,hk⟩:∃ k,qOL c=some k:=by
    cases hk:qOL c with
    | none=>rw [hk] at hi2; simp only at hi2; omega
    | some k=>exact ⟨k,rfl⟩
   have hk16:=qWA hk
   rw [hk] at hi2 hstep
   simp only at hi2 hstep
   rw [hi2]
   refine AW.skip (rgz [] [[],[],[],[18,19,20,37,39],[],[4,18,19,20]] ?_)
   iterate 6 refine op1 tok ?_
   refine qA (rgz [] [[],[4,18,19,20]] ?_)
   iterate 2 refine op1 tok ?_
   refine qA ?_
   exact ⟨(i+1,16 * x+k),⟨by simp only []; omega,hstep.symm,by simp only []; rw [Nat.pow_succ]; omega⟩,by simp only []; omega,qJ (by simp [qTL hxl2 hk16]),rfl,by simp [qTL hxl2 hk16],by simp [qTL hxl2 hk16]⟩
 intro h21
 try simp at h21
 obtain rfl:i=4:=by omega
 have hfin:qFT tl 0=some x:=by rw [← hx,List.drop_of_length_le (by omega)]; rfl
 refine AW.exit ?_
 simp
 refine rgn [] [[],[],[2,3]] ?_
 iterate 3 refine op1 tok ?_
 refine qA ?_
 exact AW.ret (qZ (k:=by simp [hfin]))
def qHI:List UInt8:=[34,92,47,98,102,110,114,116]
def zJZ:List UInt8:=[34,92,47,8,12,10,13,9]
theorem zEE:∀ k:Fin 256,if (qBB (UInt8.ofNat k.val)).isSome=true then 0≤Lib.indexByte qHI (UInt8.ofNat k.val)∧(Lib.indexByte qHI (UInt8.ofNat k.val)).toNat<8∧zJZ[(Lib.indexByte qHI (UInt8.ofNat k.val)).toNat]?=some (UInt8.ofNat ((qBB (UInt8.ofNat k.val)).getD 0))∧(qBB (UInt8.ofNat k.val)).getD 0<256 else Lib.indexByte qHI (UInt8.ofNat k.val) = -1:=by decide +kernel
theorem zAT (c:UInt8):if (qBB c).isSome=true then 0≤Lib.indexByte qHI c∧(Lib.indexByte qHI c).toNat<8∧zJZ[(Lib.indexByte qHI c).toNat]?=some (UInt8.ofNat ((qBB c).getD 0))∧(qBB c).getD 0<256 else Lib.indexByte qHI c = -1:=by
 have:=zEE ⟨c.toNat,c.toNat_lt⟩
 simpa only [UInt8.ofNat_toNat] using this
theorem qWB:∀ (l:List UInt8) (x n:Nat),qFT l x=some n→n<(x+1) * 16 ^ l.length
 | [],x,n,h=>by simp [qFT] at h; subst h; simp
 | c::l,x,n,h=>by
  simp only [qFT] at h
  split at h
  ·cases h
  rename_i k hk
  have h1:=qWB l _ n h
  have h2:=qWA hk
  rw [List.length_cons,Nat.pow_succ]
  calc n<(16 * x+k+1) * 16 ^ l.length:=h1
   _≤(16 * (x+1)) * 16 ^ l.length:=Nat.mul_le_mul_right _ (by omega)
   _=(x+1) * (16 ^ l.length * 16):=by rw [Nat.mul_comm 16,Nat.mul_assoc,Nat.mul_comm 16]
theorem qIB (s:List UInt8):(wE s).getD 0<65536:=by
 cases h:wE s with
 | none=>simp
 | some n =>
  unfold wE at h
  split at h
  ·cases h
  have h1:=qWB _ _ _ h
  have h2:((s.drop 2).take 4).length≤4:=by simp; omega
  have h3:16 ^ ((s.drop 2).take 4).length≤16 ^ 4:=Nat.pow_le_pow_right (by omega) h2
  simp only [Option.getD_some]; omega
theorem zFC (r:Nat):(r:Int).fdiv (2 ^ min 10 IntKind.i32.bits)=((r / 1024:Nat):Int):=(Int.fdiv_eq_ediv_of_nonneg _ (by decide)).trans (by show (r:Int) / 1024=_; omega)
theorem qQH (x:Nat):((x:Int).fdiv (2 ^ min 10 IntKind.i32.bits)=54)=(x / 1024=54):=by rw [zFC]; exact propext (by omega)
theorem qQG (x:Nat):((x:Int).fdiv (2 ^ min 10 IntKind.i32.bits)=55)=(x / 1024=55):=by rw [zFC]; exact propext (by omega)
theorem qWJ {x:Nat} (h:x<65536):IntKind.i32.wrap ↑(x % 2 ^ IntKind.i32.bits &&& 1023 % 2 ^ IntKind.i32.bits)=((x % 1024:Nat):Int):=by
 have e1:x % 2 ^ IntKind.i32.bits=x:=Nat.mod_eq_of_lt (by show x<4294967296; omega)
 have e2:1023 % 2 ^ IntKind.i32.bits=2 ^ 10-1:=rfl
 rw [e1,e2,Nat.and_two_pow_sub_one_eq_mod]
 simp [IntKind.wrap,IntKind.bits,IntKind.signed]; omega
theorem zJK (x:Nat):IntKind.i32.wrap (((x % 1024:Nat):Int) * 2 ^ min 10 IntKind.i32.bits)=((x % 1024 * 1024:Nat):Int):=by
 have e:((x % 1024:Nat):Int) * 2 ^ min 10 IntKind.i32.bits=((x % 1024 * 1024:Nat):Int):=by show ((x % 1024:Nat):Int) * 1024=_; omega
 rw [e]
 simp [IntKind.wrap,IntKind.bits,IntKind.signed]; omega
theorem qMS (s:List UInt8) (hs:s.length≤1000000000000):AFn Tryz.prog G 143 [.str s] (.tup [.int .i32 (wY s).1,.int .i64 (wY s).2.1,.bool (wY s).2.2]):=by
 refine AFn.introU tok Tryz.func143 (by kernel_rfl) rfl rfl ?_
 simp only [Tryz.f143,qR,List.map_cons,List.map_nil]
 have hu1:=qVA (G:=G) s
 have hu2:=qVA (G:=G) (s.drop 6)
 have hl1:=qIB s
 have hl2:=qIB (s.drop 6)
 have hIB:∀ c:UInt8,AFn Tryz.prog G 146 [.str qHI,.int .u8 c.toNat] (.int .i64 (Lib.indexByte qHI c)):=fun c=>by
  have:=qFD (G:=G) qHI c.toNat
  simpa using this
 refine rgn [] [[],[],[0]] ?_
 iterate 3 refine op1 tok ?_
 refine qA (AW.seq (rgn [] [[],[],[0,11]] ?_))
 iterate 3 refine op1 tok ?_
 refine qA (cnd ?_ ?_)
 ·intro h11
  try simp at h11
  have he:wY s=(0,0,false):=by
   match s,h11 with
   | [],_=>rfl
   | [a],_=>rfl
   | a::b::t,h=>simp at h; omega
  refine rgn [] [[],[],[]] ?_
  iterate 3 refine op1 tok ?_
  refine qA ?_
  exact AW.ret (qZ (k:=by simp [he]))
 intro h11
 try simp at h11
 obtain ⟨a,c,t,rfl⟩:∃ a c t,s=a::c::t:=by
  match s,h11 with
  | [],h=>simp at h
  | [a],h=>simp at h
  | a::c::t,_=>exact ⟨a,c,t,rfl⟩
 have hat:=zAT c
 refine AW.skip (AW.seq (rgn [.int .u8 c.toNat,.nilp,.int .i64 (Lib.indexByte qHI c)] [[],[],[],[0,5]] ?_))
 iterate 4 refine op1 tok ?_ (hv:=by first | with_reducible exact True.intro | (first | exact hIB c | simp; done) | omega | simp | (simp +contextual; omega))
 refine qA (rgn [] [[],[0,5,16]] ?_)
 iterate 2 refine op1 tok ?_
 refine qA (cnd ?_ ?_)
 ·intro h16
  try simp at h16
  obtain ⟨v,hv⟩:∃ v,qBB c=some v:=by
   cases hv:qBB c with
   | none=>rw [hv] at hat; simp at hat; omega
   | some v=>exact ⟨v,rfl⟩
  rw [hv] at hat
  simp only [Option.isSome_some,if_true,Option.getD_some] at hat
  have he:wY (a::c::t)=(v,2,true):=by unfold wY; simp only [hv]
  have hvn:((UInt8.ofNat v).toNat:Int)=v:=by simp; omega
  refine rgn [.int .u8 (UInt8.ofNat v).toNat] [[],[],[],[2],[],[]] ?_
  iterate 6 refine op1 tok ?_ (hv:=by first | with_reducible exact True.intro | (first | exact ⟨hat.1,_,hat.2.2.1,rfl⟩ | simp; done) | omega | simp | (simp +contextual; omega))
  refine qA ?_
  exact AW.ret (qZ (k:=by simp [he]; omega))
 intro h16
 try simp at h16
 have hv:qBB c=none:=by
  cases hv:qBB c with
  | none=>rfl
  | some v=>rw [hv] at hat; simp at hat; omega
 have he:wY (a::c::t)=qHH (wE (a::c::t)) (wE ((a::c::t).drop 6)):=by unfold wY; simp only [hv]
 rw [he]
 unfold qHH
 have hlen6:(wE (a::c::t)).isSome=true→6≤(a::c::t).length:=by
  unfold wE; split
  ·intro h; cases h
  intro _; omega
 generalize wE (a::c::t)=A at *
 generalize wE ((a::c::t).drop 6)=B at *
 generalize A.getD 0=x at *
 generalize B.getD 0=y at *
 refine AW.skip (rgn [.nilp,.tup [.int .i32 x,.bool A.isSome]] [[],[],[],[],[],[0,6,24],[0,6,7]] ?_)
 iterate 7 refine oq1 tok hu1 ?_
 refine qA (AW.seq (rgn [] [[],[],[],[],[],[0,6,7,27,30],[0,6,7,31]] ?_))
 iterate 3 refine op1 tok ?_
 iterate 3 refine op2 tok ?_
 refine op1 tok ?_
 refine qA (cnd ?_ ?_)
 ·intro h31
  try simp at h31
  rw [qQH] at h31
  have hc:A.isSome=false∨x / 1024≠54:=h31.imp (fun h=>by rw [h]; rfl) id
  rw [if_pos hc]
  refine rgn [] [[],[],[],[],[32,34,36],[],[],[2,38],[],[2,3,4]] ?_
  iterate 3 refine op1 tok ?_
  iterate 3 refine op2 tok ?_
  iterate 4 refine op1 tok ?_
  refine qA ?_
  exact AW.ret (qZ (k:=by simp [qQG]))
 intro h31
 try simp at h31
 rw [qQH] at h31
 have hA:A.isSome=true:=by
  cases A with
  | none=>exact absurd rfl h31.1
  | some v=>rfl
 rw [if_neg (fun h=>h.elim (fun h=>by rw [hA] at h; cases h) (fun h=>h h31.2))]
 have h6:=hlen6 hA
 have ht:List.take ((t.length:Int)+1+1).toNat (a::c::t)=a::c::t:=List.take_of_length_le (by simp; omega)
 have e1:=qWJ hl1
 have e2:=qWJ hl2
 have e3:=zJK x
 refine AW.skip (rgn [.nilp,.tup [.int .i32 y,.bool B.isSome]] [[],[],[],[6,39],[],[],[],[6,7,8]] ?_)
 iterate 8 refine op1 tok ?_ (hv:=by first | with_reducible exact True.intro | (first | (rw [ht]; exact hu2) | (simp at h6; omega); done) | omega | simp | (simp +contextual; omega))
 refine qA (rgn [] [[],[],[],[7,8,48],[],[],[],[8,51,52],[],[],[],[51,53,56],[],[],[],[2,3,4]] ?_)
 iterate 9 refine op1 tok ?_ (hv:=by first | with_reducible exact True.intro | (simp only [e1,e2,e3]; omega; done) | omega | simp | (simp +contextual; omega))
 iterate 3 refine op2 tok ?_ (hv:=by first | with_reducible exact True.intro | (simp only [e1,e2,e3]; omega; done) | omega | simp | (simp +contextual; omega))
 iterate 4 refine op1 tok ?_ (hv:=by first | with_reducible exact True.intro | (simp only [e1,e2,e3]; omega; done) | omega | simp | (simp +contextual; omega))
 refine qA ?_
 exact AW.ret (qZ (k:=by simp [qQG,e1,e2]; simpa using e3))
theorem qWC {s:List UInt8} (h:(wY s).2.2=true):(wY s).1≤1114111∧((wY s).1<55296∨57343<(wY s).1)∧2≤(wY s).2.1∧(wY s).2.1≤12:=by
 match s with
 | []=>simp [wY] at h
 | [a]=>simp [wY] at h
 | a::c::t =>
  have hat:=zAT c
  have h1:=qIB (a::c::t)
  unfold wY at h ⊢
  cases hv:qBB c with
  | some v =>
   simp only [hv,Option.isSome_some,if_true,Option.getD_some] at hat h ⊢
   omega
  | none =>
   simp only [hv] at h ⊢
   unfold qHH at h ⊢
   generalize wE (a::c::t)=A at *
   generalize wE ((a::c::t).drop 6)=B at *
   generalize A.getD 0=x at *
   generalize B.getD 0=y at *
   by_cases hc:A.isSome=false∨x / 1024≠54
   ·rw [if_pos hc] at h ⊢
    simp only [Bool.and_eq_true,decide_eq_true_eq] at h
    have h54:x / 1024≠54:=hc.resolve_left (fun e=>by rw [h.1] at e; cases e)
    simp only
    omega
   rw [if_neg hc] at h ⊢
   simp only
   omega
theorem qPS (f k:Nat) (out:List UInt8):wD f [] k out=([],0,6):=by cases f <;> simp [wD]
theorem qHR (r:Int):1≤(Lib.encodeRune r).length∧(Lib.encodeRune r).length≤4:=by
 have:=Lib.encodeRuneZ_length r
 simpa only [Lib.encodeRune,List.length_map] using this
theorem qUQ (hG:U8 G) (s:List UInt8) (hs:s.length≤1000000000):AFn Tryz.prog G 116 [.str s] (.tup [.str (zA s).1,.int .i64 (zA s).2.1,.int .i64 (zA s).2.2]):=by
 refine AFn.introU tok Tryz.func116 (by kernel_rfl) rfl rfl ?_
 simp only [Tryz.f116,qR,List.map_cons,List.map_nil]
 have hpre:wO s [34]=decide (s.head?=some 34):=by cases s <;> simp [wO]
 refine rgn [] [[],[],[0]] ?_
 iterate 3 refine op1 tok ?_
 refine qA (AW.seq (rgn [.nilp,.bool (wO s [34])] [[],[],[0,12]] ?_))
 iterate 3 refine op1 tok ?_
 refine qA (cnd ?_ ?_)
 ·intro h12
  try simp at h12
  have hu:zA s=([],0,6):=by
   unfold zA; rw [if_neg]; rw [hpre] at h12; simpa using h12
  refine rgn [] [[],[],[]] ?_
  iterate 3 refine op1 tok ?_
  refine qA ?_
  exact AW.ret (qZ (k:=by simp [hu]))
 intro h12
 try simp at h12
 have hu:zA s=wD s.length (s.drop 1) 1 []:=by
  unfold zA; rw [if_pos]; rw [hpre] at h12; simpa using h12
 rw [hu]
 have hs0:1≤s.length:=by cases s with
  | nil=>rw [hpre] at h12; simp at h12
  | cons b s=>simp
 refine AW.skip (rgn [] [[]] ?_)
 refine op1 tok ?_
 refine qA (AW.seq ?_)
 refine AW.renE 5 2 (by simp) (by conv=>lhs; simp) ?_
 refine AW.beginBox 2 3 1 5 1 (by simp; exact ⟨rfl,rfl⟩) (by simp) (by simp) (by conv=>lhs; simp) ?_
 refine rgn [] [[]] ?_
 refine op1 tok ?_
 refine qA (AW.block ?_)
 refine AW.loop (α:=Nat × List UInt8 × Bool × Nat) (fun a=>wD s.length (s.drop 1) 1 []=wD a.2.2.2 (s.drop a.1) a.1 a.2.1∧s.length+1≤a.2.2.2+a.1∧a.2.1.length≤4 * a.1∧a.1≤s.length+12) (fun a=>⟨zR 61 [(0,.p (.str s)),(5,.ptr 2 0),(6,.p (.int .i64 a.1))],[],[(2,.vars 111 [if a.2.2.1=true then .ptr 2 0 else .p .nilp,.ms 3]),(3,.row 5 1 (qH a.2.1))],0⟩) (fun a=>s.length+12-a.1) ((1,[],false,s.length)) ⟨rfl,by simp,by simp,by simp⟩ ⟨qJ (by simp),rfl,by simp,by simp⟩ ?_
 rintro ⟨k,out,u,f⟩ ⟨hq,hf,hol,hk⟩
 simp only at hq hf hol hk
 rw [hq]
 clear hq hu
 refine AW.seq ?_
 by_cases hs5:u=true
 ·
  first | rw [if_pos hs5] | rw [if_neg hs5]
  refine rgn [] [[],[],[],[0,5,6,16]] ?_
  iterate 4 refine op1 tok ?_
  refine qA (cnd ?_ ?_)
  ·intro h16
   try simp at h16
   obtain ⟨f,rfl⟩:∃ g,f=g+1:=⟨f-1,by omega⟩
   have hne:s.drop k≠[]:=by intro e; have:=congrArg List.length e; simp at this; omega
   have hdec:=qCQ (G:=G) hG (s.drop k) hne
   have hstep : wD (f + 1) (s.drop k) k out = if (Lib.decodeL (s.drop k)).1 = 34 then (if 4096 < out.length then ([], 0, 3) else (out, k + 1, 0)) else if (Lib.decodeL (s.drop k)).1 < 32 ∨ ((Lib.decodeL (s.drop k)).1 = 65533 ∧ (Lib.decodeL (s.drop k)).2 = 1) then ([], 0, 6)
     else if (Lib.decodeL (s.drop k)).1=92 then (match qDJ (s.drop k) with
      | none=>([],0,6)
      | some (c,n)=>wD f ((s.drop k).drop n) (k+n) (out++Lib.encodeRune c))
     else wD f ((s.drop k).drop (Lib.decodeL (s.drop k)).2) (k+(Lib.decodeL (s.drop k)).2) (out++Lib.encodeRune (Lib.decodeL (s.drop k)).1):=by
    simp only [wD]; rw [if_neg hne] <;> rfl
   rw [hstep]
   clear hstep
   have hok:=qDK (s.drop k)
   have hmx:=vL (s.drop k)
   have hwl:=Lib.decodeL_le (s.drop k) hne
   have hwp:=vK (s.drop k) hne
   have hesc:=qMS (G:=G) (s.drop k) (by simp; omega)
   have hEL:qDJ (s.drop k)=if (wY (s.drop k)).2.2=true then some ((wY (s.drop k)).1,(wY (s.drop k)).2.1) else none:=rfl
   have hEO:=qWC (s:=s.drop k)
   rw [hEL]
   clear hEL
   rw [List.length_drop] at hwl
   generalize Lib.decodeL (s.drop k)=p at *
   obtain ⟨r,w⟩:=p
   generalize wY (s.drop k)=q at *
   obtain ⟨c,n,ok⟩:=q
   simp only at *
   refine AW.skip (AW.block (rgn [.nilp,.tup [.int .i32 r,.int .i64 w]] [[],[],[],[],[0,5,6,17],[],[],[],[0,5,6,7,8]] ?_))
   iterate 9 refine oq1 tok hdec ?_
   refine qA (AW.seq (AW.block (rgn [] [[],[],[0,5,6,7,8,24]] ?_)))
   iterate 3 refine op1 tok ?_
   refine qA (cnd ?_ ?_)
   ·intro h24
    try simp at h24
    rw [if_pos (show r=34 by omega)]
    refine AW.seq ?_
    refine AW.seqRegionO [] ?_
    refine qD.stepK [5,6,27] (zF rfl (zEY out) (by simp)) (by conv=>lhs; simp) rfl ?_
    refine qD.run [[5,6,28]] ?_
    refine op1 tok ?_
    refine qA (cnd ?_ ?_)
    ·intro h28
     try simp at h28
     rw [if_pos (show 4096<out.length by omega)]
     refine rgn [] [[],[],[]] ?_
     iterate 3 refine op1 tok ?_
     exact qA (AW.ret qZ)
    intro h28
    try simp at h28
    rw [if_neg (show ¬ 4096<out.length by omega)]
    refine AW.skip ?_
    refine AW.seqRegionO [] ?_
    refine qD.stepK [6,29] (zF rfl (qNA out) (by simp)) (by conv=>lhs; simp) rfl ?_
    refine qD.run [[],[],[],[2,3],[]] ?_
    iterate 5 refine op1 tok ?_
    exact qA (AW.ret qZ)
   intro h24
   try simp at h24
   rw [if_neg (show ¬ r=34 by omega)]
   refine rgn [] [[],[],[],[],[],[0,5,6,7,8,35,38],[],[],[],[0,5,6,7,8,42],[0,5,6,7,8,32]] ?_
   iterate 3 refine op1 tok ?_
   iterate 6 refine op2 tok ?_
   iterate 2 refine op1 tok ?_
   refine qA (cnd ?_ ?_)
   ·intro h32
    try simp at h32
    rw [if_pos (show r<32∨(r=65533∧w=1) by omega)]
    refine rgn [] [[],[],[]] ?_
    iterate 3 refine op1 tok ?_
    exact qA (AW.ret qZ)
   intro h32
   try simp at h32
   rw [if_neg (show ¬ (r<32∨(r=65533∧w=1)) by omega)]
   refine rgn [] [[],[],[0,5,6,7,8,43]] ?_
   iterate 3 refine op1 tok ?_
   refine qA (cnd ?_ ?_)
   ·intro h43
    try simp at h43
    rw [if_pos (show r=92 by omega)]
    refine rgn [] [[0,5,6]] ?_
    refine op1 tok ?_
    refine qA (rgn [.nilp,.tup [.int .i32 c,.int .i64 n,.bool ok]] [[],[],[],[],[0,5,6,46],[],[],[],[],[],[0,5,6,7,8,9]] ?_)
    iterate 11 refine oq1 tok hesc ?_
    refine qA (rgn [] [[],[0,5,6,7,8,55]] ?_)
    iterate 2 refine op1 tok ?_
    refine qA (cnd ?_ ?_)
    ·intro h55
     try simp at h55
     subst h55
     refine rgn [] [[],[],[]] ?_
     iterate 3 refine op1 tok ?_
     exact qA (AW.ret qZ)
    intro h55
    try simp at h55
    subst h55
    have hE:=hEO rfl
    simp only [if_true]
    refine AW.skip ?_
    have hel:=qHR c
    refine rgn [] [[]] ?_
    refine op1 tok ?_
    refine qP ?_
    refine qD.stepK [0,5,6,8] (zF rfl (jL out c (by omega) (by omega) (by omega) (by omega)) (by simp)) (by conv=>lhs; simp) rfl ?_
    refine qD.nil ?_
    refine rgz [] [[],[],[0,5,60],[0,5,6]] ?_
    iterate 4 refine op1 tok ?_
    refine qA ?_
    exact ⟨(k+n,out++Lib.encodeRune c,true,f),⟨by rw [List.drop_drop],by simp only []; omega,by simp; omega,by simp only []; omega⟩,by simp only []; omega,qJ (by simp [qH]),rfl,by simp [qH],by simp [qH]⟩
   intro h43
   try simp at h43
   rw [if_neg (show ¬ r=92 by omega)]
   refine AW.skip ?_
   have hel:=qHR r
   refine rgn [] [[]] ?_
   refine op1 tok ?_
   refine qP ?_
   refine qD.stepK [0,5,6,8] (zF rfl (jL out r (by omega) (by omega) (by omega) (by omega)) (by simp)) (by conv=>lhs; simp) rfl ?_
   refine qD.nil ?_
   refine rgz [] [[],[],[0,5,60],[0,5,6]] ?_
   iterate 4 refine op1 tok ?_
   refine qA ?_
   exact ⟨(k+w,out++Lib.encodeRune r,true,f),⟨by rw [List.drop_drop],by simp only []; omega,by simp; omega,by simp only []; omega⟩,by simp only []; omega,qJ (by simp [qH]),rfl,by simp [qH],by simp [qH]⟩
  intro h16
  try simp at h16
  rw [List.drop_of_length_le (show s.length≤k by omega),qPS]
  refine AW.exit ?_
  simp
  refine rgn [] [[],[],[]] ?_
  iterate 3 refine op1 tok ?_
  exact qA (AW.ret qZ)
 ·
  first | rw [if_pos hs5] | rw [if_neg hs5]
  refine rgn [] [[],[],[],[0,5,6,16]] ?_
  iterate 4 refine op1 tok ?_
  refine qA (cnd ?_ ?_)
  ·intro h16
   try simp at h16
   obtain ⟨f,rfl⟩:∃ g,f=g+1:=⟨f-1,by omega⟩
   have hne:s.drop k≠[]:=by intro e; have:=congrArg List.length e; simp at this; omega
   have hdec:=qCQ (G:=G) hG (s.drop k) hne
   have hstep : wD (f + 1) (s.drop k) k out = if (Lib.decodeL (s.drop k)).1 = 34 then (if 4096 < out.length then ([], 0, 3) else (out, k + 1, 0)) else if (Lib.decodeL (s.drop k)).1 < 32 ∨ ((Lib.decodeL (s.drop k)).1 = 65533 ∧ (Lib.decodeL (s.drop k)).2 = 1) then ([], 0, 6)
     else if (Lib.decodeL (s.drop k)).1=92 then (match qDJ (s.drop k) with
      | none=>([],0,6)
      | some (c,n)=>wD f ((s.drop k).drop n) (k+n) (out++Lib.encodeRune c))
     else wD f ((s.drop k).drop (Lib.decodeL (s.drop k)).2) (k+(Lib.decodeL (s.drop k)).2) (out++Lib.encodeRune (Lib.decodeL (s.drop k)).1):=by
    simp only [wD]; rw [if_neg hne] <;> rfl
   rw [hstep]
   clear hstep
   have hok:=qDK (s.drop k)
   have hmx:=vL (s.drop k)
   have hwl:=Lib.decodeL_le (s.drop k) hne
   have hwp:=vK (s.drop k) hne
   have hesc:=qMS (G:=G) (s.drop k) (by simp; omega)
   have hEL:qDJ (s.drop k)=if (wY (s.drop k)).2.2=true then some ((wY (s.drop k)).1,(wY (s.drop k)).2.1) else none:=rfl
   have hEO:=qWC (s:=s.drop k)
   rw [hEL]
   clear hEL
   rw [List.length_drop] at hwl
   generalize Lib.decodeL (s.drop k)=p at *
   obtain ⟨r,w⟩:=p
   generalize wY (s.drop k)=q at *
   obtain ⟨c,n,ok⟩:=q
   simp only at *
   refine AW.skip (AW.block (rgn [.nilp,.tup [.int .i32 r,.int .i64 w]] [[],[],[],[],[0,5,6,17],[],[],[],[0,5,6,7,8]] ?_))
   iterate 9 refine oq1 tok hdec ?_
   refine qA (AW.seq (AW.block (rgn [] [[],[],[0,5,6,7,8,24]] ?_)))
   iterate 3 refine op1 tok ?_
   refine qA (cnd ?_ ?_)
   ·intro h24
    try simp at h24
    rw [if_pos (show r=34 by omega)]
    refine AW.seq ?_
    refine AW.seqRegionO [] ?_
    refine qD.stepK [5,6,27] (zF rfl (zCC out) (by simp)) (by conv=>lhs; simp) rfl ?_
    refine qD.run [[5,6,28]] ?_
    refine op1 tok ?_
    refine qA (cnd ?_ ?_)
    ·intro h28
     try simp at h28
     rw [if_pos (show 4096<out.length by omega)]
     refine rgn [] [[],[],[]] ?_
     iterate 3 refine op1 tok ?_
     exact qA (AW.ret qZ)
    intro h28
    try simp at h28
    rw [if_neg (show ¬ 4096<out.length by omega)]
    refine AW.skip ?_
    refine AW.seqRegionO [] ?_
    refine qD.stepK [6,29] (zF rfl (qUR out) (by simp)) (by conv=>lhs; simp) rfl ?_
    refine qD.run [[],[],[],[2,3],[]] ?_
    iterate 5 refine op1 tok ?_
    exact qA (AW.ret qZ)
   intro h24
   try simp at h24
   rw [if_neg (show ¬ r=34 by omega)]
   refine rgn [] [[],[],[],[],[],[0,5,6,7,8,35,38],[],[],[],[0,5,6,7,8,42],[0,5,6,7,8,32]] ?_
   iterate 3 refine op1 tok ?_
   iterate 6 refine op2 tok ?_
   iterate 2 refine op1 tok ?_
   refine qA (cnd ?_ ?_)
   ·intro h32
    try simp at h32
    rw [if_pos (show r<32∨(r=65533∧w=1) by omega)]
    refine rgn [] [[],[],[]] ?_
    iterate 3 refine op1 tok ?_
    exact qA (AW.ret qZ)
   intro h32
   try simp at h32
   rw [if_neg (show ¬ (r<32∨(r=65533∧w=1)) by omega)]
   refine rgn [] [[],[],[0,5,6,7,8,43]] ?_
   iterate 3 refine op1 tok ?_
   refine qA (cnd ?_ ?_)
   ·intro h43
    try simp at h43
    rw [if_pos (show r=92 by omega)]
    refine rgn [] [[0,5,6]] ?_
    refine op1 tok ?_
    refine qA (rgn [.nilp,.tup [.int .i32 c,.int .i64 n,.bool ok]] [[],[],[],[],[0,5,6,46],[],[],[],[],[],[0,5,6,7,8,9]] ?_)
    iterate 11 refine oq1 tok hesc ?_
    refine qA (rgn [] [[],[0,5,6,7,8,55]] ?_)
    iterate 2 refine op1 tok ?_
    refine qA (cnd ?_ ?_)
    ·intro h55
     try simp at h55
     subst h55
     refine rgn [] [[],[],[]] ?_
     iterate 3 refine op1 tok ?_
     exact qA (AW.ret qZ)
    intro h55
    try simp at h55
    subst h55
    have hE:=hEO rfl
    simp only [if_true]
    refine AW.skip ?_
    have hel:=qHR c
    refine rgn [] [[]] ?_
    refine op1 tok ?_
    refine qP ?_
    refine qD.stepK [0,5,6,8] (zF rfl (qCP out c (by omega) (by omega) (by omega) (by omega)) (by simp)) (by conv=>lhs; simp) rfl ?_
    refine qD.nil ?_
    refine rgz [] [[],[],[0,5,60],[0,5,6]] ?_
    iterate 4 refine op1 tok ?_
    refine qA ?_
    exact ⟨(k+n,out++Lib.encodeRune c,true,f),⟨by rw [List.drop_drop],by simp only []; omega,by simp; omega,by simp only []; omega⟩,by simp only []; omega,qJ (by simp [qH]),rfl,by simp [qH],by simp [qH]⟩
   intro h43
   try simp at h43
   rw [if_neg (show ¬ r=92 by omega)]
   refine AW.skip ?_
   have hel:=qHR r
   refine rgn [] [[]] ?_
   refine op1 tok ?_
   refine qP ?_
   refine qD.stepK [0,5,6,8] (zF rfl (qCP out r (by omega) (by omega) (by omega) (by omega)) (by simp)) (by conv=>lhs; simp) rfl ?_
   refine qD.nil ?_
   refine rgz [] [[],[],[0,5,60],[0,5,6]] ?_
   iterate 4 refine op1 tok ?_
   refine qA ?_
   exact ⟨(k+w,out++Lib.encodeRune r,true,f),⟨by rw [List.drop_drop],by simp only []; omega,by simp; omega,by simp only []; omega⟩,by simp only []; omega,qJ (by simp [qH]),rfl,by simp [qH],by simp [qH]⟩
  intro h16
  try simp at h16
  rw [List.drop_of_length_le (show s.length≤k by omega),qPS]
  refine AW.exit ?_
  simp
  refine rgn [] [[],[],[]] ?_
  iterate 3 refine op1 tok ?_
  exact qA (AW.ret qZ)
mutual
def vT (ch:Val→Val):Val→Val
 | .mk k m n t ks vs c=>ch (.mk k m n t ks (qRK ch vs) c)
def qRK (ch:Val→Val):List Val→List Val
 | []=>[]
 | v::vs=>vT ch v::qRK ch vs
end
theorem qMA (ch:Val→Val):∀ l,qRK ch l=l.map (vT ch)
 | []=>by simp [qRK]
 | v::vs=>by simp [qRK,qMA ch vs]
theorem qOD (ch:Val→Val) (v:Val):vT ch v=ch (.mk v.kind v.mask v.num v.text v.keys (v.kids.map (vT ch)) v.code):=by
 cases v; simp only [vT,qMA,Val.kind_mk,Val.mask_mk,Val.num_mk,Val.text_mk,Val.keys_mk,Val.kids_mk,Val.code_mk]
def qFA (u:Val):Val := .mk u.kind 0 u.num u.text u.keys u.kids u.code
def yE (v:Val):Val:=vT qFA v
def InM (a:Int):Prop:=0≤a∧a<18446744073709551616
def yD (a:Int):Nat:=(a % 18446744073709551616).toNat
theorem qOB (a:Int):yD a<2 ^ 64:=by unfold yD; omega
theorem qVT {a:Int} (h:InM a):((yD a:Nat):Int)=a:=by unfold yD; unfold InM at h; omega
theorem qXN {n:Nat} (h:n<2 ^ 64):yD n=n:=by unfold yD; omega
def orM (a b:Int):Int:=((yD a ||| yD b:Nat):Int)
def zKC (a b:Int):Int:=((yD a &&& yD b:Nat):Int)
def zJI (a b:Int):Int:=((yD a &&& (18446744073709551615-yD b):Nat):Int)
theorem zJU (a b:Int):yD a ||| yD b<2 ^ 64:=Nat.or_lt_two_pow (qOB a) (qOB b)
theorem qHO (a b:Int):yD (orM a b)=yD a ||| yD b:=qXN (zJU a b)
theorem or_assoc (a b c:Int):orM (orM a b) c=orM a (orM b c):=by
 show ((yD (orM a b) ||| yD c:Nat):Int)=((yD a ||| yD (orM b c):Nat):Int)
 rw [qHO,qHO,Nat.or_assoc]
theorem or_self {a:Int} (h:InM a):orM a a=a:=by unfold orM; rw [Nat.or_self,qVT h]
def LeM (a b:Int):Prop:=orM a b=b
theorem LeM.trans {a b c:Int} (h1:LeM a b) (h2:LeM b c):LeM a c:=by
 unfold LeM at *; rw [← h2,← or_assoc,h1]
theorem LeM.or {a b c:Int} (h1:LeM a c) (h2:LeM b c):LeM (orM a b) c:=by
 unfold LeM at *; rw [or_assoc,h2,h1]
theorem LeM.refl {a:Int} (h:InM a):LeM a a:=or_self h
theorem LeM.and {a b:Int} (h:LeM a b) (ha:InM a):zKC b a=a:=by
 unfold LeM at h
 have h1:yD a ||| yD b=yD b:=by rw [← qHO,h]
 unfold zKC
 have:yD b &&& yD a=yD a:=by
  rw [← h1]
  apply Nat.eq_of_testBit_eq; intro i
  simp only [Nat.testBit_and,Nat.testBit_or]
  cases (yD a).testBit i <;> cases (yD b).testBit i <;> rfl
 rw [this,qVT ha]
theorem LeM.sub {a b:Int} (h:LeM a b):zJI a b=0:=by
 unfold LeM at h
 have h1:yD a ||| yD b=yD b:=by rw [← qHO,h]
 have hb:=qOB b
 unfold zJI
 have:yD a &&& (18446744073709551615-yD b)=0:=by
  apply Nat.eq_of_testBit_eq; intro i
  rw [show 18446744073709551615-yD b=2 ^ 64-(yD b+1) by omega]
  simp only [Nat.testBit_and,Nat.testBit_two_pow_sub_succ hb,Nat.zero_testBit]
  have h3:(yD a ||| yD b).testBit i=(yD b).testBit i:=by rw [h1]
  rw [Nat.testBit_or] at h3
  revert h3
  cases (yD a).testBit i <;> cases (yD b).testBit i <;> simp
 rw [this]; rfl
def zM:Val := .mk 0 0 dc0 [] [] [] 0
@[simp] theorem zFM:zM.kind=0:=rfl
@[simp] theorem zFL:zM.mask=0:=rfl
@[simp] theorem zHG:zM.num.neg=false:=rfl
@[simp] theorem zCH:zM.num.digits=[]:=rfl
@[simp] theorem zFA:zM.num.scale=0:=rfl
@[simp] theorem zFK:zM.text=[]:=rfl
@[simp] theorem zFO:zM.keys=[]:=rfl
@[simp] theorem zFN:zM.kids=[]:=rfl
@[simp] theorem zFP:zM.code=0:=rfl
def qQJ (v:Val) (m:Int):Val := .mk v.kind m v.num v.text v.keys v.kids v.code
@[simp] theorem zHL (u:Val) (m:Int):(qQJ u m).kind=u.kind:=rfl
@[simp] theorem zHK (u:Val) (m:Int):(qQJ u m).mask=m:=rfl
@[simp] theorem zJL (u:Val) (m:Int):(qQJ u m).num=u.num:=rfl
@[simp] theorem zHJ (u:Val) (m:Int):(qQJ u m).text=u.text:=rfl
@[simp] theorem zHN (u:Val) (m:Int):(qQJ u m).keys=u.keys:=rfl
@[simp] theorem zHM (u:Val) (m:Int):(qQJ u m).kids=u.kids:=rfl
@[simp] theorem zHO (u:Val) (m:Int):(qQJ u m).code=u.code:=rfl
def qQK (v:Val) (l:List Val):Val := .mk v.kind v.mask v.num v.text v.keys l v.code
@[simp] theorem zHR (u:Val) (m:List Val):(qQK u m).kind=u.kind:=rfl
@[simp] theorem zHQ (u:Val) (m:List Val):(qQK u m).mask=u.mask:=rfl
@[simp] theorem zJM (u:Val) (m:List Val):(qQK u m).num=u.num:=rfl
@[simp] theorem zHP (u:Val) (m:List Val):(qQK u m).text=u.text:=rfl
@[simp] theorem zHT (u:Val) (m:List Val):(qQK u m).keys=u.keys:=rfl
@[simp] theorem zHS (u:Val) (m:List Val):(qQK u m).kids=m:=rfl
@[simp] theorem zHU (u:Val) (m:List Val):(qQK u m).code=u.code:=rfl
theorem wW (v:Val):yE v=qQK (qQJ v 0) (v.kids.map yE):=by
 show vT qFA v=_
 rw [qOD]; rfl
@[simp] theorem zGS (u:Val):(yE u).kind=u.kind:=by rw [wW]; rfl
@[simp] theorem zGR (u:Val):(yE u).mask=0:=by rw [wW]; rfl
@[simp] theorem zIA (u:Val):(yE u).num=u.num:=by rw [wW]; rfl
@[simp] theorem zGQ (u:Val):(yE u).text=u.text:=by rw [wW]; rfl
@[simp] theorem zGU (u:Val):(yE u).keys=u.keys:=by rw [wW]; rfl
@[simp] theorem zGT (u:Val):(yE u).kids=u.kids.map yE:=by rw [wW]; rfl
@[simp] theorem zGV (u:Val):(yE u).code=u.code:=by rw [wW]; rfl
theorem zDT (v:Val):vT id v=v:=by
 induction v using Val.induct with
 | h v ih =>
  rw [qOD]
  have:v.kids.map (vT id)=v.kids:=by
   conv=>rhs; rw [← List.map_id v.kids]
   exact List.map_congr_left fun k hk=>ih k hk
  rw [this]; cases v; rfl
mutual
def zKB:Val→Int
 | .mk _ m _ _ _ vs _=>qWF m vs
def qWF (m:Int):List Val→Int
 | []=>m
 | v::vs=>qWF (orM m (zKB v)) vs
end
@[simp] theorem zHZ (m:Int):qWF m []=m:=by simp only [qWF]
mutual
def InV:Val→Prop
 | .mk _ m _ _ _ vs _=>InM m∧zCB vs
def zCB:List Val→Prop
 | []=>True
 | v::vs=>InV v∧zCB vs
end
theorem zCA:∀ l,zCB l↔∀ v∈l,InV v
 | []=>by simp [zCB]
 | v::vs=>by simp [zCB,zCA vs]
mutual
def qBD:Val→Nat
 | .mk _ _ _ _ _ vs _=>vD 0 vs+1
def vD (d:Nat):List Val→Nat
 | []=>d
 | v::vs=>vD (max d (qBD v)) vs
end
theorem qCB (v:Val):qBD v=vD 0 v.kids+1:=by cases v; simp only [qBD,Val.kids_mk]
@[simp] theorem zKA (m:Nat):vD m []=m:=by simp only [vD]
theorem qGL (v:Val):Val.sz v=1+Val.szL v.kids:=by cases v; simp only [Val.sz,Val.kids_mk]
@[simp] theorem zKF:Val.szL []=0:=by simp only [Val.szL]
@[simp] theorem zKE (x:Val):Val.szL [x]=Val.sz x:=by simp only [Val.szL,Nat.add_zero]
theorem zFT (v:Val):1≤Val.sz v:=by rw [qGL]; omega
theorem qVH:∀ l:List Val,l.length≤Val.szL l
 | []=>by simp
 | v::l=>by simp only [Val.szL,List.length_cons]; have:=qVH l; have:=zFT v; omega
theorem qTS {v:Val} {n:Nat} (h:Val.sz v≤n):v.kids.length≤n:=by rw [qGL] at h; have:=qVH v.kids; omega
theorem zEG {d:Nat} {l:List Val} {b:Nat} (hd:d≤b) (h:∀ v∈l,qBD v≤b):vD d l≤b:=by
 induction l generalizing d with
 | nil=>simpa using hd
 | cons y l ih =>
  simp only [vD]
  exact ih (by have:=h y (by simp); omega) fun v hv=>h v (by simp [hv])
theorem qER (v:Val):1≤qBD v:=by rw [qCB]; omega
structure RS where
 left:List UInt8
 nodes:Nat
 bad:Bool
 deep:Bool
 big:Bool
 deriving DecidableEq
def qT (st:RS) (k:Nat):RS:={ st with left:=st.left.drop k }
def wC (b:UInt8):Bool:=b == 32 || b == 9 || b == 13 || b == 10
def zG (s:List UInt8):List UInt8:=s.dropWhile wC
def kO (b:UInt8):Bool:=qI b || b == 45 || b == 43 || b == 46 || b == 101 || b == 69
def tk (w:List UInt8) (st:RS):Bool × RS :=
 if w.isPrefixOf (zG st.left) then (true,{ st with left:=(zG st.left).drop w.length }) else (false,{ st with left:=zG st.left })
def jD:List UInt8→Nat
 | []=>0
 | b::t=>if b=34 then 1 else if b=92 then (match t with
  | []=>1
  | _::u=>2+jD u) else 1+jD t
def qCJ (s:List UInt8):Nat:=if s=[] then 0 else 1+jD (s.drop 1)
def yW (l:List UInt8) (st:RS) (u:List UInt8 × Nat × Int):RS × List UInt8 :=
 if u.2.2=0 then ({ st with left:=l.drop u.2.1 },u.1) else if u.2.2=3 then ({ st with left:=l.drop (qCJ l),big:=true },u.1) else ({ st with left:=l.drop u.2.1,bad:=true },u.1)
def qB (st:RS):RS × List UInt8:=yW (zG st.left) st (zA (zG st.left))
def wZ (st:RS):RS × Val :=
 ({ st with left:=st.left.dropWhile kO,big:=st.big || decide ((zW (st.left.takeWhile kO)).2=3),bad:=st.bad || decide ((zW (st.left.takeWhile kO)).2=4) },.mk 4 0 (zW (st.left.takeWhile kO)).1 [] [] [] 0)
def wF (c:UInt8) (many:Nat) (st:RS):Bool × RS :=
 let st1:RS:={ st with big:=st.big || decide (200<many) }
 if st1.bad=true then (true,st1) else
 let a:=tk [c] st1
 if a.1=true then (true,a.2) else let b:=tk [44] a.2
  (false,{ b.2 with bad := !b.1 })
def uQ (ks:List (List UInt8)) (vs:List Val) (key:List UInt8) (v:Val):List (List UInt8) × List Val:=if key∈ks then (ks,vs.set (ks.idxOf key) v) else (ks++[key],vs++[v])
def qK (st:RS):RS:=if st.bad=true then st else { (tk [58] st).2 with bad := !(tk [58] st).1 }
def kC:List UInt8:=[110,117,108,108]
def kM:List UInt8:=[116,114,117,101]
def wU:List UInt8:=[102,97,108,115,101]
def qQ (st:RS) (d:Nat):RS:=⟨zG st.left,st.nodes+1,st.bad,st.deep || decide (12<d),st.big || decide (400<st.nodes+1)⟩
def wK (st:RS):RS × Val :=
 if kC.isPrefixOf st.left then (qT st 4,.mk 1 0 dc0 [] [] [] 0)
 else if kM.isPrefixOf st.left then (qT st 4,.mk 3 0 dc0 [] [] [] 0)
 else if wU.isPrefixOf st.left then (qT st 5,.mk 2 0 dc0 [] [] [] 0)
 else if ([34]:List UInt8).isPrefixOf st.left then ((qB st).1,.mk 5 0 dc0 (qB st).2 [] [] 0)
 else if st.left≠[]∧(qS st.left 0=45∨kG (qS st.left 0)=true) then wZ st
 else ({ st with bad:=true },zM)
mutual
def qN:Nat→RS→Nat→RS × Val
 | 0,st,_=>({ st with bad:=true },zM)
 | n+1,st,d =>
  if ([91]:List UInt8).isPrefixOf (qQ st d).left then
   (let a:=tk [93] (qT (qQ st d) 1)
    let r:=if a.1=true then (a.2,[]) else wM n a.2 (d+1) 1 []
    (r.1,.mk 6 0 dc0 [] [] r.2 0))
  else if ([123]:List UInt8).isPrefixOf (qQ st d).left then
   (let a:=tk [125] (qT (qQ st d) 1)
    let r:=if a.1=true then (a.2,[],[]) else zZ n a.2 (d+1) 1 [] []
    (r.1,.mk 7 0 dc0 [] r.2.1 r.2.2 0))
  else wK (qQ st d)
def wM:Nat→RS→Nat→Nat→List Val→RS × List Val
 | 0,st,_,_,vs=>({ st with bad:=true },vs)
 | n+1,st,d,many,vs =>
  if st.bad=true then (st,vs) else
  let a:=qN n st d
  let b:=wF 93 many a.1
  if b.1=true then (b.2,vs++[a.2]) else wM n b.2 d (many+1) (vs++[a.2])
def zZ:Nat→RS→Nat→Nat→List (List UInt8)→List Val→RS × List (List UInt8) × List Val
 | 0,st,_,_,ks,vs=>({ st with bad:=true },ks,vs)
 | n+1,st,d,many,ks,vs =>
  if st.bad=true then (st,ks,vs) else
  let q:=qB st
  let c:=qK q.1
  let a:=if c.bad=true then (c,ks,vs) else let v:=qN n c d
   (v.1,uQ ks vs q.2 v.2)
  let b:=wF 125 many a.1
  if b.1=true then (b.2,a.2) else zZ n b.2 d (many+1) a.2.1 a.2.2
end
def kI (s:List UInt8):Val × Int × Int :=
 let r:=qN (2 * s.length+2) ⟨s,0,false,false,false⟩ 1
 if r.1.bad=true then (zM,0,10) else if r.1.deep=true then (zM,0,11) else if r.1.big=true then (zM,0,3) else (r.2,(s.length:Int)-r.1.left.length,0)
theorem qAQ (s:List UInt8):(zG s).length≤s.length:=(List.dropWhile_sublist _).length_le
theorem vF (w:List UInt8) (st:RS):(tk w st).2.left.length≤st.left.length∧((tk w st).1=true→(tk w st).2.left.length+w.length≤st.left.length):=by
 have h:=qAQ st.left
 unfold tk
 split
 ·rename_i hp
  have:=(List.isPrefixOf_iff_prefix.1 hp).length_le
  simp only [List.length_drop]
  exact ⟨by omega,fun _=>by omega⟩
 exact ⟨h,fun h=>by cases h⟩
@[simp] theorem qAR (w:List UInt8) (st:RS):(tk w st).2.bad=st.bad:=by unfold tk; split <;> rfl
@[simp] theorem yA (w:List UInt8) (st:RS):(tk w st).2.nodes=st.nodes:=by unfold tk; split <;> rfl
@[simp] theorem qNK (w:List UInt8) (st:RS):(tk w st).2.deep=st.deep:=by unfold tk; split <;> rfl
@[simp] theorem qIG (w:List UInt8) (st:RS):(tk w st).2.big=st.big:=by unfold tk; split <;> rfl
theorem uC (st:RS):(qB st).1.left.length≤st.left.length:=by
 have h:=qAQ st.left
 unfold qB yW
 split
 ·simp only [List.length_drop]; omega
 split <;> (simp only [List.length_drop]; omega)
theorem qNO (c:UInt8) (many:Nat) (st:RS):(wF c many st).2.left.length≤st.left.length:=by
 unfold wF
 simp only
 split
 ·exact Nat.le_refl _
 split
 ·exact (vF _ _).1
 exact Nat.le_trans (vF _ _).1 (vF _ _).1
theorem qEX (st:RS):(qK st).left.length≤st.left.length:=by
 unfold qK; split
 ·exact Nat.le_refl _
 exact (vF _ _).1
theorem qJX (st:RS) (d:Nat):(qQ st d).left.length≤st.left.length:=qAQ _
theorem qOR (p:UInt8→Bool) (l:List UInt8):(l.dropWhile p).length≤l.length:=(List.dropWhile_sublist _).length_le
theorem qIA:∀ (f:Nat) (s:List UInt8) (k:Nat) (out:List UInt8),(wD f s k out).2.2=0→k+1≤(wD f s k out).2.1
 | 0,s,k,out,h=>by simp [wD] at h
 | f+1,s,k,out,h=>by
  simp only [wD] at h ⊢
  split at h
  ·simp at h
  rename_i h1
  rw [if_neg h1]
  split at h
  ·rename_i h2
   rw [if_pos h2]
   split at h
   ·simp at h
   rename_i h3; rw [if_neg h3]; exact Nat.le_refl _
  rename_i h2
  rw [if_neg h2]
  split at h
  ·simp at h
  rename_i h3
  rw [if_neg h3]
  split at h
  ·rename_i h4
   rw [if_pos h4]
   cases he:qDJ s with
   | none=>rw [he] at h; simp at h
   | some cn =>
    obtain ⟨c,n⟩:=cn
    rw [he] at h
    simp only at h ⊢
    have:=qIA f _ _ _ h
    omega
  rename_i h4
  rw [if_neg h4]
  have:=qIA f _ _ _ h
  omega
theorem qWY {st:RS} (h:([34]:List UInt8).isPrefixOf (zG st.left)=true):(qB st).1.bad=false→(qB st).1.left.length<st.left.length:=by
 have h1:=qAQ st.left
 obtain ⟨t,ht⟩:=List.isPrefixOf_iff_prefix.1 h
 unfold qB yW
 generalize zG st.left=l at *
 subst ht
 have hu:zA ([34]++t)=wD (t.length+1) t 1 []:=by
  unfold zA
  simp
 rw [hu]
 split
 ·rename_i h0
  intro _
  have:=qIA _ _ _ _ h0
  simp only [List.length_drop]
  simp at h1 ⊢; omega
 split
 ·intro _
  simp only [List.length_drop,qCJ]
  simp at h1 ⊢; omega
 intro hb; simp at hb
theorem qXE:(zW []).2=4:=by decide +kernel
theorem qXI {st:RS} (h:(wZ st).1.bad=false):(wZ st).1.left.length<st.left.length:=by
 unfold wZ at h ⊢
 simp only [Bool.or_eq_false_iff,decide_eq_false_iff_not] at h
 have hs:=List.takeWhile_append_dropWhile (p:=kO) (l:=st.left)
 generalize hA:st.left.takeWhile kO=A at *
 simp only
 have hl:=congrArg List.length hs
 rw [List.length_append] at hl
 have:A≠[]:=by rintro rfl; exact h.2 qXE
 have:=List.length_pos_iff.2 this
 omega
theorem xP (s:List UInt8):zG (zG s)=zG s:=by
 unfold zG
 induction s with
 | nil=>rfl
 | cons b s ih =>
  rw [List.dropWhile_cons]
  split
  ·exact ih
  rename_i h; rw [List.dropWhile_cons,if_neg h]
theorem wV {w l:List UInt8} (h:w.isPrefixOf l=true):w.length≤l.length:=(List.isPrefixOf_iff_prefix.1 h).length_le
theorem qWI (st:RS) (ht:zG st.left=st.left):(wK st).1.left.length≤st.left.length∧((wK st).1.bad=false→(wK st).1.left.length<st.left.length):=by
 unfold wK
 split
 ·rename_i h; have:=wV h; simp [kC,qT] at this ⊢; omega
 split
 ·rename_i h; have:=wV h; simp [kM,qT] at this ⊢; omega
 split
 ·rename_i h; have:=wV h; simp [wU,qT] at this ⊢; omega
 split
 ·rename_i h; exact ⟨uC st,qWY (by rw [ht]; exact h)⟩
 split
 ·exact ⟨qOR _ _,qXI⟩
 exact ⟨Nat.le_refl _,fun h=>by simp at h⟩
theorem zAF : ∀ n : Nat, (∀ st d, (qN n st d).1.left.length ≤ st.left.length ∧ ((qN n st d).1.bad = false → (qN n st d).1.left.length < st.left.length)) ∧
  (∀ st d many vs,(wM n st d many vs).1.left.length≤st.left.length)∧(∀ st d many ks vs,(zZ n st d many ks vs).1.left.length≤st.left.length)
 | 0=>⟨fun st d=>⟨by simp [qN],fun h=>by simp [qN] at h⟩,fun st d many vs=>by simp [wM],fun st d many ks vs=>by simp [zZ]⟩
 | n+1=>by
  obtain ⟨ih1,ih2,ih3⟩:=zAF n
  refine ⟨fun st d => ?_,fun st d many vs => ?_,fun st d many ks vs => ?_⟩
  ·have he:=qJX st d
   have ht:zG (qQ st d).left=(qQ st d).left:=xP _
   simp only [qN]
   split
   ·rename_i h
    have h1:=wV h
    have h2:=vF [93] (qT (qQ st d) 1)
    simp only [qT,List.length_drop,List.length_cons,List.length_nil] at h1 h2
    split
    ·simp only [qT]; exact ⟨by omega,fun _=>by omega⟩
    have h3:=ih2 (tk [93] (qT (qQ st d) 1)).2 (d+1) 1 []
    simp only [qT] at h3 ⊢
    exact ⟨by omega,fun _=>by omega⟩
   split
   ·rename_i h
    have h1:=wV h
    have h2:=vF [125] (qT (qQ st d) 1)
    simp only [qT,List.length_drop,List.length_cons,List.length_nil] at h1 h2
    split
    ·simp only [qT]; exact ⟨by omega,fun _=>by omega⟩
    have h3:=ih3 (tk [125] (qT (qQ st d) 1)).2 (d+1) 1 [] []
    simp only [qT] at h3 ⊢
    exact ⟨by omega,fun _=>by omega⟩
   have h1:=qWI (qQ st d) ht
   exact ⟨by omega,fun hb=>by have:=h1.2 hb; omega⟩
  ·simp only [wM]
   split
   ·exact Nat.le_refl _
   have h1:=(ih1 st d).1
   have h2:=qNO 93 many (qN n st d).1
   split
   ·simp only; omega
   have:=ih2 (wF 93 many (qN n st d).1).2 d (many+1) (vs++[(qN n st d).2]); omega
  simp only [zZ]
  split
  ·exact Nat.le_refl _
  have h1:=uC st
  have h2:=qEX (qB st).1
  have h3:=(ih1 (qK (qB st).1) d).1
  generalize hA:(if (qK (qB st).1).bad=true then (qK (qB st).1,ks,vs) else ((qN n (qK (qB st).1) d).1,uQ ks vs (qB st).2 (qN n (qK (qB st).1) d).2))=A
  have h4:A.1.left.length≤st.left.length:=by
   rw [← hA]; split
   ·simp only; omega
   simp only; omega
  have h5:=qNO 125 many A.1
  split
  ·simp only; omega
  have:=ih3 (wF 125 many A.1).2 d (many+1) A.2.1 A.2.2; omega
@[simp] def rdC (st:RS):List V:=[.p (.str st.left),.p (.int .i64 st.nodes),.p (.bool st.bad),.p (.bool st.deep),.p (.bool st.big)]
theorem qVD (s:List UInt8):vE (asF [32,9,10,13]) s=zG s:=by
 unfold vE zG
 congr 1
 funext b
 have key:∀ k:Fin 256,asF [32,9,10,13] k.val=wC (UInt8.ofNat k.val):=by decide +kernel
 have:=key ⟨b.toNat,b.toNat_lt⟩
 simpa using this
def zGF:List UInt8:=[48,49,50,51,52,53,54,55,56,57,45,43,46,101,69]
theorem zDP (s:List UInt8):vE (asF zGF) s=s.dropWhile kO:=by
 unfold vE
 congr 1
 funext b
 have key:∀ k:Fin 256,asF zGF k.val=kO (UInt8.ofNat k.val):=by decide +kernel
 have:=key ⟨b.toNat,b.toNat_lt⟩
 simpa using this
theorem qDG (s w:List UInt8):wO s w=w.isPrefixOf s:=by
 rw [Bool.eq_iff_iff]
 simp only [wO,Bool.and_eq_true,decide_eq_true_eq,List.isPrefixOf_iff_prefix]
 constructor
 ·rintro ⟨h1,h2⟩; exact ⟨s.drop w.length,by have:=List.take_append_drop w.length s; rw [h2] at this; exact this⟩
 rintro ⟨t,rfl⟩; simp
theorem qVE (st:RS):AX Tryz.prog G 109 [.ptr 2 0] [(2,.vars 85 (rdC st))] (.tuple []) [2] [(2,.vars 85 (rdC { st with left:=zG st.left }))]:=by
 refine AX.introU tok 900 Tryz.func109 (by kernel_rfl) rfl rfl ?_
 simp only [Tryz.f109,qR,List.map_cons,List.map_nil]
 have ht:=qHC (G:=G) st.left [32,9,10,13] (by simp) (by decide)
 rw [qVD] at ht
 refine rgz [.nilp,.str (zG st.left)] [[],[],[],[],[2,6],[],[],[],[10]] ?_
 iterate 9 refine oq1 tok ht ?_
 refine qA ?_
 exact qJU
theorem jC (st:RS) (w:List UInt8):AX Tryz.prog G 78 [.ptr 2 0,.p (.str w)] [(2,.vars 85 (rdC st))] (.p (.bool (tk w st).1)) [2] [(2,.vars 85 (rdC (tk w st).2))]:=by
 refine AX.introU tok 900 Tryz.func78 (by kernel_rfl) rfl rfl ?_
 simp only [Tryz.f78,qR,List.map_cons,List.map_nil]
 have hc:=qAF (G:=G) (zG st.left) w
 rw [qDG] at hc
 have ht:tk w st=if w.isPrefixOf (zG st.left) then (true,{ st with left:=(zG st.left).drop w.length }) else (false,{ st with left:=zG st.left }):=rfl
 rw [ht]
 have hcp:jR (zG st.left) w=if w.isPrefixOf (zG st.left) then (zG st.left).drop w.length else zG st.left:=by unfold jR; rw [qDG]
 generalize hb:w.isPrefixOf (zG st.left)=b at *
 refine rgn [] [[0,1]] ?_
 refine op1 tok ?_
 refine qA (rgn [] [[]] ?_)
 refine op1 tok ?_
 refine qP ?_
 refine qD.stepK [0,1] (zF rfl (qVE st) (by simp)) (by conv=>lhs; simp) rfl ?_
 refine qD.nil ?_
 refine rgn [.nilp,.tup [.str (jR (zG st.left) w),.bool b]] [[],[],[],[],[0,13,14],[],[],[],[0,16,17],[],[0,5,6]] ?_
 iterate 11 refine oq1 tok hc ?_
 refine qA (AW.seq (rgn [] [[]] ?_))
 refine op1 tok ?_
 refine qA (cnd ?_ ?_)
 ·intro h18
  try simp at h18
  subst h18
  simp only [if_true] at hcp ⊢
  rw [← hcp]
  refine rgz [] [[],[],[],[6,20,22],[6]] ?_
  iterate 5 refine op1 tok ?_ (hv:=by first | with_reducible exact True.intro | ((simp [hcp]); done) | omega | simp | (simp +contextual; omega))
  refine qA (rgn [] [[],[4]] ?_)
  iterate 2 refine op1 tok ?_
  refine qA ?_
  exact AW.ret zI
 intro h18
 try simp at h18
 subst h18
 refine AW.skip (rgn [] [[],[4]] ?_)
 iterate 2 refine op1 tok ?_
 refine qA ?_
 exact AW.ret zI
theorem qIM:∀ l:List UInt8,jD l≤l.length
 | []=>Nat.le_refl _
 | [b]=>by simp only [jD]; split <;> (try split) <;> simp
 | b::c::u=>by
  have h1:=qIM u
  have h2:=qIM (c::u)
  simp only [jD,List.length_cons] at h2 ⊢
  split
  ·omega
  split
  ·omega
  omega
theorem qQC (l:List UInt8):qCJ l≤l.length:=by
 unfold qCJ
 split
 ·omega
 rename_i h
 have h1:=qIM (l.drop 1)
 have h2:=List.length_pos_iff.2 h
 rw [List.length_drop] at h1; omega
theorem zDA (t:List UInt8):jD (34::t)=1:=by unfold jD; simp
theorem zDC:jD [92]=1:=by unfold jD; simp
theorem zDD (d:UInt8) (u:List UInt8):jD (92::d::u)=2+jD u:=by rw [jD]; simp
theorem zDB {c:UInt8} (h1:c≠34) (h2:c≠92) (t:List UInt8):jD (c::t)=1+jD t:=by
 cases t <;> (rw [jD]; simp [h1,h2,jD])
def uP (s:List UInt8) (i:Nat):Nat:=if i≤s.length then i+jD (s.drop i) else s.length
theorem qQD {s:List UInt8} {i:Nat} {c:UInt8} (h:s[i]?=some c):uP s i=if c=34 then i+1 else if c=92 then uP s (i+2) else uP s (i+1):=by
 have hi:=(List.getElem?_eq_some_iff.1 h).1
 have hd:s.drop i=c::s.drop (i+1):=by
  rw [List.drop_eq_getElem_cons hi]; congr 1
  have:=List.getElem?_eq_getElem hi
  rw [h] at this; exact (Option.some.inj this).symm
 unfold uP
 rw [if_pos (by omega),hd]
 by_cases h1:c=34
 ·rw [if_pos h1,h1,zDA]
 rw [if_neg h1]
 by_cases h2:c=92
 ·rw [if_pos h2]
  by_cases h3:i+2≤s.length
  ·obtain ⟨d,u,hu⟩:∃ d u,s.drop (i+1)=d::u:=by
    cases h4:s.drop (i+1) with
    | nil=>have:=congrArg List.length h4; simp at this; omega
    | cons d u=>exact ⟨d,u,rfl⟩
   have hu2:s.drop (i+2)=u:=by rw [show i+2=(i+1)+1 by omega,← List.drop_drop,hu]; rfl
   rw [if_pos h3,hu2,hu,h2,zDD]; omega
  have hu:s.drop (i+1)=[]:=List.drop_of_length_le (by omega)
  rw [if_neg h3,hu,h2,zDC]
  have:s.length=i+1:=by have:=congrArg List.length hu; simp at this; omega
  omega
 rw [if_neg h2,if_pos (by omega),zDB h1 h2]; omega
theorem qSS (s:List UInt8):qCJ s=uP s 1:=by
 unfold qCJ uP
 split
 ·rename_i h; subst h; rfl
 rename_i h; have:=List.length_pos_iff.2 h; rw [if_pos (by omega)]
theorem qSR (s:List UInt8) (hs:s.length≤1000000000000):AFn Tryz.prog G 117 [.str s] (.int .i64 (qCJ s)):=by
 refine AFn.introU tok Tryz.func117 (by kernel_rfl) rfl rfl ?_
 simp only [Tryz.f117,qR,List.map_cons,List.map_nil]
 refine rgn [] [[0]] ?_
 refine op1 tok ?_
 refine qA (AW.seq (rgn [] [[]] ?_))
 refine op1 tok ?_
 refine qA (AW.block ?_)
 refine AW.loop (α:=Nat) (fun i=>qCJ s=uP s i∧i≤s.length+2) (fun i=>⟨zR 23 [(0,.p (.str s)),(3,.p (.int .i64 i))],[],[],0⟩) (fun i=>s.length+2-i) (1) ⟨qSS s,by omega⟩ ⟨qJ (by simp),rfl,by simp,by simp⟩ ?_
 rintro i ⟨hi,hil⟩
 rw [hi]
 refine AW.seq (rgn [] [[],[],[],[0,3,7]] ?_)
 iterate 4 refine op1 tok ?_
 refine qA (cnd ?_ ?_)
 ·intro h7
  try simp at h7
  obtain ⟨c,hc⟩:∃ c,s[i]?=some c:=⟨s[i],by simp [show i<s.length by omega]⟩
  have hst:=qQD hc
  rw [hst]
  have hcl:=c.toNat_lt
  refine AW.skip (AW.seq (AW.block (rgn [.int .u8 c.toNat] [[],[],[0,3,12]] ?_)))
  iterate 3 refine op1 tok ?_ (hv:=by first | with_reducible exact True.intro | (first | exact ⟨by omega,_,hc,rfl⟩ | simp [hc]; done) | omega | simp | (simp +contextual; omega))
  refine qA (AW.block (rgn [] [[],[0,3,12,13]] ?_))
  iterate 2 refine op1 tok ?_
  refine qA (cnd ?_ ?_)
  ·intro h13
   try simp at h13
   rw [if_pos (show c=34 from UInt8.toNat_inj.1 (by show c.toNat=34; omega))]
   refine rgn [] [[],[],[2]] ?_
   iterate 3 refine op1 tok ?_
   exact qA (AW.ret qZ)
  intro h13
  try simp at h13
  rw [if_neg (show ¬ c=34 by rintro rfl; exact h13 rfl)]
  rw [if_neg (show ¬ c=34 by rintro rfl; exact h13 rfl)] at hst
  refine rgn [] [[],[0,3,17]] ?_
  iterate 2 refine op1 tok ?_
  refine qA (cnd ?_ ?_)
  ·intro h17
   try simp at h17
   rw [if_pos (show c=92 from UInt8.toNat_inj.1 (by show c.toNat=92; omega))]
   rw [if_pos (show c=92 from UInt8.toNat_inj.1 (by show c.toNat=92; omega))] at hst
   refine rgz [] [[],[],[0,3]] ?_
   iterate 3 refine op1 tok ?_
   refine qA (rgz [] [[],[],[0,3]] ?_)
   iterate 3 refine op1 tok ?_
   refine qA ?_
   exact ⟨i+2,⟨rfl,by omega⟩,by omega,qJ (by simp [(show (i:Int)+1+1=i+2 by omega)]),rfl,by simp [(show (i:Int)+1+1=i+2 by omega)],by simp [(show (i:Int)+1+1=i+2 by omega)]⟩
  intro h17
  try simp at h17
  rw [if_neg (show ¬ c=92 by rintro rfl; exact h17 rfl)]
  rw [if_neg (show ¬ c=92 by rintro rfl; exact h17 rfl)] at hst
  refine AW.skip (rgz [] [[],[],[0,3]] ?_)
  iterate 3 refine op1 tok ?_
  refine qA ?_
  exact ⟨i+1,⟨rfl,by omega⟩,by omega,qJ (by simp),rfl,by simp,by simp⟩
 intro h7
 try simp at h7
 have hend:uP s i=s.length:=by
  unfold uP; split
  ·rw [show i=s.length by omega]; simp [jD]
  rfl
 refine AW.exit ?_
 simp
 refine rgn [] [[],[],[2]] ?_
 iterate 3 refine op1 tok ?_
 refine qA ?_
 exact AW.ret (qZ (k:=by simp [hend]))
theorem qLI {s:List UInt8} (h:(wE s).isSome=true):6≤s.length:=by
 unfold wE at h
 split at h
 ·cases h
 omega
theorem zAU {s:List UInt8} (h:(wY s).2.2=true):(wY s).2.1≤s.length:=by
 match s with
 | []=>simp [wY] at h
 | [a]=>simp [wY] at h
 | a::c::t =>
  have h1:=qLI (s:=a::c::t)
  have h2:=qLI (s:=(a::c::t).drop 6)
  unfold wY at h ⊢
  cases hv:qBB c with
  | some v=>simp only [hv]; simp
  | none =>
   simp only [hv] at h ⊢
   unfold qHH at h ⊢
   generalize wE (a::c::t)=A at *
   generalize wE ((a::c::t).drop 6)=B at *
   split at h
   ·rename_i hc
    rw [if_pos hc]
    simp only [Bool.and_eq_true] at h
    exact h1 h.1
   rename_i hc
   rw [if_neg hc]
   simp only [Bool.and_eq_true] at h
   have:=h2 h.1
   rw [List.length_drop] at this
   simp only; omega
theorem qFG:∀ (f:Nat) (s:List UInt8) (k:Nat) (out:List UInt8),((wD f s k out).2.2=0∧(wD f s k out).2.1≤k+s.length)∨(((wD f s k out).2.2=3∨(wD f s k out).2.2=6)∧(wD f s k out).2.1=0)
 | 0,s,k,out => .inr (by simp [wD])
 | f+1,s,k,out=>by
  simp only [wD]
  split
  ·exact .inr (by simp)
  rename_i hne
  split
  ·split
   ·exact .inr (by simp)
   exact .inl ⟨rfl,by have:=List.length_pos_iff.2 hne; simp only; omega⟩
  split
  ·exact .inr (by simp)
  split
  ·cases he:qDJ s with
   | none=>exact .inr (by simp)
   | some cn =>
    obtain ⟨c,n⟩:=cn
    simp only
    have hn:n≤s.length:=by
     unfold qDJ at he
     split at he
     ·rename_i h; cases he; exact zAU h
     cases he
    have:=qFG f (s.drop n) (k+n) (out++Lib.encodeRune c)
    rw [List.length_drop] at this
    omega
  have hn:=Lib.decodeL_le s hne
  have:=qFG f (s.drop (Lib.decodeL s).2) (k+(Lib.decodeL s).2) (out++Lib.encodeRune (Lib.decodeL s).1)
  rw [List.length_drop] at this
  omega
theorem qCF (s:List UInt8):((zA s).2.2=0∧(zA s).2.1≤s.length)∨(((zA s).2.2=3∨(zA s).2.2=6)∧(zA s).2.1=0):=by
 unfold zA
 split
 ·rename_i h
  have:=qFG s.length (s.drop 1) 1 []
  rw [List.length_drop] at this
  have:1≤s.length:=by cases s with
   | nil=>simp at h
   | cons=>simp
  omega
 exact .inr (by simp)
theorem qLR (hG:U8 G) (st:RS) (hl:st.left.length≤1000000000):AX Tryz.prog G 82 [.ptr 2 0] [(2,.vars 85 (rdC st))] (.p (.str (qB st).2)) [2] [(2,.vars 85 (rdC (qB st).1))]:=by
 refine AX.introU tok 900 Tryz.func82 (by kernel_rfl) rfl rfl ?_
 simp only [Tryz.f82,qR,List.map_cons,List.map_nil]
 have hle:=qAQ st.left
 have hu:=qUQ (G:=G) hG (zG st.left) (by omega)
 have hp:=qCF (zG st.left)
 have hsk:=qSR (G:=G) (zG st.left) (by omega)
 have hsl:=qQC (zG st.left)
 have hq:qB st=yW (zG st.left) st (zA (zG st.left)):=rfl
 rw [hq]
 unfold yW
 refine rgn [] [[0]] ?_
 refine op1 tok ?_
 refine qA (rgn [] [[]] ?_)
 refine op1 tok ?_
 refine qP ?_
 refine qD.stepK [0] (zF rfl (qVE st) (by simp)) (by conv=>lhs; simp) rfl ?_
 refine qD.nil ?_
 generalize zG st.left=l at *
 generalize zA l=u at *
 obtain ⟨us,un,ue⟩:=u
 simp only at hu hp ⊢
 refine rgn [.nilp,.tup [.str us,.int .i64 un,.int .i64 ue]] [[],[],[],[],[0,13],[],[],[],[],[],[0,3,4,16],[0,3,4,5]] ?_
 iterate 12 refine oq1 tok hu ?_
 refine qA (AW.seq (rgn [] [[0,3,4,17]] ?_))
 refine op1 tok ?_
 refine qA (AW.block (rgn [] [[],[0,3,4,17,21]] ?_))
 iterate 2 refine op1 tok ?_
 refine qA (cnd ?_ ?_)
 ·intro h21
  try simp at h21
  subst h21
  have h0:un≤l.length:=by omega
  refine AW.skip (rgn [] [[],[],[],[],[3,4,33,37],[],[],[3,39,40],[],[3]] ?_)
  iterate 10 refine op1 tok ?_ (hv:=by first | with_reducible exact True.intro | (omega; done) | omega | simp | (simp +contextual; omega))
  refine qA (rgn [] [[],[2]] ?_)
  iterate 2 refine op1 tok ?_
  refine qA ?_
  exact AW.ret zI
 intro h21
 try simp at h21
 rw [if_neg h21]
 refine rgn [] [[],[0,3,4,23]] ?_
 iterate 2 refine op1 tok ?_
 refine qA (cnd ?_ ?_)
 ·intro h23
  try simp at h23
  rw [if_pos h23]
  refine rgz [.nilp,.int .i64 (qCJ l)] [[],[],[],[],[],[0,3,25,30],[],[],[],[0,3,4]] ?_
  iterate 10 refine oq1 tok hsk ?_
  refine qA (rgn [] [[],[],[],[],[3,4,33,37],[],[],[3,39,40],[],[3]] ?_)
  iterate 10 refine op1 tok ?_ (hv:=by first | with_reducible exact True.intro | (omega; done) | omega | simp | (simp +contextual; omega))
  refine qA (rgn [] [[],[2]] ?_)
  iterate 2 refine op1 tok ?_
  refine qA ?_
  exact AW.ret zI
 intro h23
 try simp at h23
 rw [if_neg h23]
 refine rgz [] [[],[],[],[0,3,4]] ?_
 iterate 4 refine op1 tok ?_
 refine qA (rgn [] [[],[],[],[],[3,4,33,37],[],[],[3,39,40],[],[3]] ?_)
 iterate 10 refine op1 tok ?_ (hv:=by first | with_reducible exact True.intro | (omega; done) | omega | simp | (simp +contextual; omega))
 refine qA (rgn [] [[],[2]] ?_)
 iterate 2 refine op1 tok ?_
 refine qA ?_
 exact AW.ret zI
theorem qTN (l:List UInt8):l.take (l.length-(l.dropWhile kO).length)=l.takeWhile kO∧(l.dropWhile kO).length≤l.length:=by
 have h:=List.takeWhile_append_dropWhile (p:=kO) (l:=l)
 generalize l.takeWhile kO=A at *
 generalize l.dropWhile kO=B at *
 subst h
 simp
theorem qXJ (st:RS) (hl:st.left.length≤1000000000):AX Tryz.prog G 83 [.ptr 2 0] [(2,.vars 85 (rdC st))] (.agg (wZ st).2.cells) [2] [(2,.vars 85 (rdC (wZ st).1))]:=by
 refine AX.introU tok 900 Tryz.func83 (by kernel_rfl) rfl rfl ?_
 simp only [Tryz.f83,qR,List.map_cons,List.map_nil]
 have ht:=qHC (G:=G) st.left zGF (by decide) (by decide)
 rw [zDP] at ht
 obtain ⟨hs1,hs2⟩:=qTN st.left
 have hpl:(st.left.takeWhile kO).length≤1000000000:=Nat.le_trans (List.takeWhile_sublist _).length_le hl
 have hp:=qSJ (G:=G) (st.left.takeWhile kO) hpl
 have hn:wZ st=({ st with left:=st.left.dropWhile kO,big:=st.big || decide ((zW (st.left.takeWhile kO)).2=3),bad:=st.bad || decide ((zW (st.left.takeWhile kO)).2=4) },.mk 4 0 (zW (st.left.takeWhile kO)).1 [] [] [] 0):=rfl
 rw [hn]
 generalize st.left.dropWhile kO=rest at *
 generalize st.left.takeWhile kO=A at *
 generalize zW A=p at *
 obtain ⟨dc,e⟩:=p
 simp only at *
 refine rgn [] [[]] ?_
 refine op1 tok ?_
 refine qA (rgn [.nilp,.str rest] [[],[],[],[],[0,2,10],[0,2,3]] ?_)
 iterate 6 refine oq1 tok ht ?_
 refine qA ?_
 refine AW.seqDrawS tok mixed 19 [[0],[12],[13],[14],[0],[16],[17],[18],[19],[3],[21],[20,22],[15,23],[24],[25],[11],[11],[],[4,26]] [.nilp,.tup [dc.enc,.int .i64 e]] [] (by kernel_rfl) ?_
 iterate 19 refine d1 ?_ (hv:=by first | with_reducible exact True.intro | (first | omega | exact ⟨by omega,by omega⟩ | (rw [hs1]; exact hp); done) | omega | simp | (simp +contextual; omega))
 refine DGo.nil (by kernel_rfl) ⟨by kernel_rfl, ?_⟩
 refine qD.run [[0,2,3,4,5]] ?_
 refine op1 tok ?_
 refine qA (rgn [] [[],[],[],[],[],[0,2,3,4,5,28,33],[],[],[],[0,2,3,4,5,36,37],[],[0,2,3,4,5]] ?_)
 iterate 6 refine op1 tok ?_
 iterate 2 refine op2 tok ?_
 iterate 4 refine op1 tok ?_
 refine qA (rgn [] [[],[],[],[],[],[0,2,3,4,5,39,44],[],[],[0,2,3,4,39,47],[],[],[0,2,3,4]] ?_)
 iterate 6 refine op1 tok ?_
 iterate 2 refine op2 tok ?_
 iterate 4 refine op1 tok ?_
 refine qA (rgn [] [[],[],[],[2,4,51,53],[2,4]] ?_)
 iterate 5 refine op1 tok ?_
 refine qA (rgn [] [[],[],[2]] ?_)
 iterate 3 refine op1 tok ?_
 refine qA ?_
 refine AW.fillE 902 [none,none,none,none,none,none,some 1,some 9,none] (by conv=>lhs; simp) ?_
 exact AW.ret zI
theorem qBT (c:UInt8) (many:Nat) (st:RS):(wF c many st).2.nodes=st.nodes:=by
 unfold wF; simp only; split
 ·rfl
 split <;> simp
theorem qHL (c:UInt8) (many:Nat) (st:RS) (h:(wF c many st).2.bad=false):st.bad=false:=by
 unfold wF at h; simp only at h; split at h
 ·rename_i hb; rw [hb] at h; cases h
 rename_i hb; simpa using hb
theorem qQM (c:UInt8) (many:Nat) (st:RS) (h:(wF c many st).1=false):st.bad=false:=by
 unfold wF at h; simp only at h; split at h
 ·cases h
 rename_i hb; simpa using hb
theorem jF (st:RS):(qB st).1.nodes=st.nodes:=by
 unfold qB yW; split
 ·rfl
 split <;> rfl
theorem qSY (st:RS) (h:(qB st).1.bad=false):st.bad=false:=by
 unfold qB yW at h; split at h
 ·exact h
 split at h
 ·exact h
 cases h
theorem vM (st:RS):(qK st).nodes=st.nodes:=by
 unfold qK; split
 ·rfl
 simp
theorem qKK (st:RS):(wK st).1.nodes=st.nodes:=by
 unfold wK
 split
 ·rfl
 split
 ·rfl
 split
 ·rfl
 split
 ·exact jF st
 split <;> rfl
theorem zBT (st:RS) (h:(wK st).1.bad=false):st.bad=false:=by
 unfold wK at h
 split at h
 ·exact h
 split at h
 ·exact h
 split at h
 ·exact h
 split at h
 ·exact qSY st h
 split at h
 ·simp only [wZ,Bool.or_eq_false_iff] at h; exact h.1
 cases h
theorem zAE : ∀ n : Nat, (∀ st d, (qN n st d).1.bad = false → st.bad = false ∧ (qN n st d).1.nodes + (qN n st d).1.left.length ≤ st.nodes + st.left.length) ∧
  (∀ st d many vs,(wM n st d many vs).1.bad=false→st.bad=false∧(wM n st d many vs).1.nodes+(wM n st d many vs).1.left.length≤st.nodes+st.left.length) ∧
  (∀ st d many ks vs,(zZ n st d many ks vs).1.bad=false→st.bad=false∧(zZ n st d many ks vs).1.nodes+(zZ n st d many ks vs).1.left.length≤st.nodes+st.left.length)
 | 0=>⟨fun st d h=>by simp [qN] at h,fun st d many vs h=>by simp [wM] at h,fun st d many ks vs h=>by simp [zZ] at h⟩
 | n+1=>by
  obtain ⟨ih1,ih2,ih3⟩:=zAE n
  refine ⟨fun st d => ?_,fun st d many vs => ?_,fun st d many ks vs => ?_⟩
  ·have he:=qJX st d
   have hen:(qQ st d).nodes=st.nodes+1:=rfl
   have heb:(qQ st d).bad=st.bad:=rfl
   have ht:zG (qQ st d).left=(qQ st d).left:=xP _
   simp only [qN]
   split
   ·rename_i h
    have h1:=wV h
    have h2:=vF [93] (qT (qQ st d) 1)
    have h5:=yA [93] (qT (qQ st d) 1)
    have h6:=qAR [93] (qT (qQ st d) 1)
    simp only [qT,List.length_drop,List.length_cons,List.length_nil] at h1 h2 h5 h6
    split
    ·simp only [qT]; intro hb; exact ⟨by rw [← heb,← h6]; exact hb,by omega⟩
    have h3:=ih2 (tk [93] (qT (qQ st d) 1)).2 (d+1) 1 []
    simp only [qT] at h3 ⊢
    intro hb
    obtain ⟨h7,h8⟩:=h3 hb
    exact ⟨by rw [← heb,← h6]; exact h7,by omega⟩
   split
   ·rename_i h
    have h1:=wV h
    have h2:=vF [125] (qT (qQ st d) 1)
    have h5:=yA [125] (qT (qQ st d) 1)
    have h6:=qAR [125] (qT (qQ st d) 1)
    simp only [qT,List.length_drop,List.length_cons,List.length_nil] at h1 h2 h5 h6
    split
    ·simp only [qT]; intro hb; exact ⟨by rw [← heb,← h6]; exact hb,by omega⟩
    have h3:=ih3 (tk [125] (qT (qQ st d) 1)).2 (d+1) 1 [] []
    simp only [qT] at h3 ⊢
    intro hb
    obtain ⟨h7,h8⟩:=h3 hb
    exact ⟨by rw [← heb,← h6]; exact h7,by omega⟩
   have h1:=qWI (qQ st d) ht
   have h2:=qKK (qQ st d)
   intro hb
   have:=h1.2 hb
   exact ⟨heb ▸ zBT _ hb,by omega⟩
  ·simp only [wM]
   split
   ·rename_i hb; intro h; simp only at h; rw [h] at hb; cases hb
   rename_i hb
   have hb':st.bad=false:=by simpa using hb
   have h1:=ih1 st d
   have h2:=qNO 93 many (qN n st d).1
   have h3:=qBT 93 many (qN n st d).1
   have h4:=qHL 93 many (qN n st d).1
   split
   ·simp only; intro h; have:=h1 (h4 h); exact ⟨hb',by omega⟩
   intro h
   obtain ⟨h5,h6⟩:=ih2 (wF 93 many (qN n st d).1).2 d (many+1) (vs++[(qN n st d).2]) h
   have:=h1 (h4 h5); exact ⟨hb',by omega⟩
  simp only [zZ]
  split
  ·rename_i hb; intro h; simp only at h; rw [h] at hb; cases hb
  rename_i hb
  have hb':st.bad=false:=by simpa using hb
  have h1:=uC st
  have h1':=jF st
  have h2:=qEX (qB st).1
  have h2':=vM (qB st).1
  have h3:=ih1 (qK (qB st).1) d
  generalize hA:(if (qK (qB st).1).bad=true then (qK (qB st).1,ks,vs) else ((qN n (qK (qB st).1) d).1,uQ ks vs (qB st).2 (qN n (qK (qB st).1) d).2))=A
  have h4:A.1.bad=false→A.1.nodes+A.1.left.length≤st.nodes+st.left.length:=by
   rw [← hA]; split
   ·rename_i h; intro h'; simp only at h'; rw [h] at h'; cases h'
   intro h'; have:=(h3 h').2; simp only; omega
  have h5:=qNO 125 many A.1
  have h6:=qBT 125 many A.1
  have h7:=qHL 125 many A.1
  split
  ·simp only; intro h; have:=h4 (h7 h); exact ⟨hb',by omega⟩
  intro h
  obtain ⟨h8,h9⟩:=ih3 (wF 125 many A.1).2 d (many+1) A.2.1 A.2.2 h
  have:=h4 (h7 h8); exact ⟨hb',by omega⟩
def qGF (G:qO) (N d:Nat):Prop:=∀ (m:Nat) (s:RS),m<N→2 * s.left.length+2≤m→s.left.length≤1000000000→s.nodes+s.left.length≤10000000000→d+s.left.length≤10000000000 →
 AX Tryz.prog G 47 [.ptr 2 0,.p (.int .i64 d)] [(2,.vars 85 (rdC s))] (.agg (qN m s d).2.cells) [2] [(2,.vars 85 (rdC (qN m s d).1))]
theorem zAD (st st':RS) (d:Nat) (v:Val) (vs:List Val) (hl:vs.length≤1000000000) (hv:AX Tryz.prog G 47 [.ptr 2 0,.p (.int .i64 d)] [(2,.vars 85 (rdC st))] (.agg v.cells) [2] [(2,.vars 85 (rdC st'))]):AX Tryz.prog G 112 [.ptr 5 0,.ptr 6 0,.ptr 7 0] [(2,.vars 85 (rdC st)),(5,.vars 42 [.p (.int .i64 6),.p (.int .u64 0),.p (.bool false),.p (.str []),.p (.int .i64 0),.p (.str []),.nilsl,.ms 8,.p (.int .i64 0)]),(6,.vars 83 [.ptr 2 0]),(7,.vars 3 [.p (.int .i64 d)]),(8,.row 42 9 (vs.map Val.enc))] (.tuple []) [2,5,6,7] [(2,.vars 85 (rdC st')),(5,.vars 42 [.p (.int .i64 6),.p (.int .u64 0),.p (.bool false),.p (.str []),.p (.int .i64 0),.p (.str []),.nilsl,.ms 8,.p (.int .i64 0)]),(6,.vars 83 [.ptr 2 0]),(7,.vars 3 [.p (.int .i64 d)]),(8,.row 42 9 ((vs++[v]).map Val.enc))]:=by
 refine AX.introU tok 900 Tryz.func112 (by kernel_rfl) rfl rfl ?_
 simp only [Tryz.f112,qR,List.map_cons,List.map_nil]
 simp only [rdC,Val.cells] at hv
 refine AW.drawS tok mixed 12 [[0],[3],[1],[2],[5,6],[4],[],[4,9],[10,8],[11,7],[0],[12,10]] [.ref [.str st'.left,.int .i64 st'.nodes,.bool st'.bad,.bool st'.deep,.bool st'.big],v.enc,zM.enc,zM.enc,v.enc] [] (by kernel_rfl) ?_
 iterate 12 refine d1 ?_ (h:=by intro C; conv=>lhs; simp [Value.oneCell']) (hv:=by first | with_reducible exact True.intro | (first | omega | (simpa [qL] using hv) | (simp; omega) | (trace_state; fail); done) | omega | simp | (simp +contextual; omega))
 refine DGo.nil (by kernel_rfl) ⟨by kernel_rfl, ?_⟩
 refine qD.take 910 8 (by conv=>lhs; simp) ?_
 refine qD.nil ?_
 exact qJU
def qOG (n:Nat) (st:RS) (d:Nat):RS × List Val:=if (tk [93] st).1=true then ((tk [93] st).2,[]) else wM n (tk [93] st).2 d 1 []
theorem qEK (n:Nat) (st:RS) (d many:Nat) (vs:List Val):wM (n+1) st d many vs=if st.bad=true then (st,vs) else if (wF 93 many (qN n st d).1).1=true then ((wF 93 many (qN n st d).1).2,vs++[(qN n st d).2]) else wM n (wF 93 many (qN n st d).1).2 d (many+1) (vs++[(qN n st d).2]):=by
 simp only [wM]
theorem zAZ (N:Nat) (st:RS) (d:Nat) (hN:2 * st.left.length+3≤N) (hl:st.left.length≤1000000000) (hk:st.nodes+st.left.length≤10000000000) (hd:d+st.left.length≤10000000000) (hv:qGF G N d):AX Tryz.prog G 111 [.ptr 2 0,.p (.str [93]),.func (.func 112) [] [.ptr 5 0,.ptr 6 0,.ptr 7 0]] [(2,.vars 85 (rdC st)),(5,.vars 42 [.p (.int .i64 6),.p (.int .u64 0),.p (.bool false),.p (.str []),.p (.int .i64 0),.p (.str []),.nilsl,.ms 8,.p (.int .i64 0)]),(6,.vars 83 [.ptr 2 0]),(7,.vars 3 [.p (.int .i64 d)]),(8,.row 42 9 (([]:List Val).map Val.enc))] (.tuple []) [2,5,6,7] [(2,.vars 85 (rdC (qOG N st d).1)),(5,.vars 42 [.p (.int .i64 6),.p (.int .u64 0),.p (.bool false),.p (.str []),.p (.int .i64 0),.p (.str []),.nilsl,.ms 8,.p (.int .i64 0)]),(6,.vars 83 [.ptr 2 0]),(7,.vars 3 [.p (.int .i64 d)]),(8,.row 42 9 ((qOG N st d).2.map Val.enc))]:=by
 refine AX.introU tok 900 Tryz.func111 (by kernel_rfl) rfl rfl ?_
 simp only [Tryz.f111,qR,List.map_cons,List.map_nil]
 have hM:qOG N st d=if (tk [93] st).1=true then ((tk [93] st).2,[]) else wM N (tk [93] st).2 d 1 []:=rfl
 rw [hM]
 have htl:=(vF [93] st).1
 have htn:=yA [93] st
 have htb:=qAR [93] st
 have htd:=qNK [93] st
 have htg:=qIG [93] st
 refine AW.seq (rgn [] [[],[]] ?_)
 iterate 2 refine op1 tok ?_
 refine qP ?_
 refine qD.stepK [0,1,2,9] (zF rfl (jC st [93]) (by simp)) (by conv=>lhs; simp) rfl ?_
 refine qD.nil ?_
 refine cnd ?_ ?_
 ·intro h9
  try simp at h9
  rw [if_pos h9]
  exact AW.ret zI
 intro h9
 try simp at h9
 rw [if_neg (by rw [h9]; simp)]
 generalize (tk [93] st).2=sa at *
 refine AW.skip (rgn [] [[]] ?_)
 refine op1 tok ?_
 refine qA (AW.block ?_)
 refine AW.pinsTo [2,5,6,7] (by simp) (by conv=>lhs; simp) ?_
 refine AW.loop (α:=Nat × RS × Nat × List Val) (fun a=>wM N sa d 1 []=wM a.1 a.2.1 d a.2.2.1 a.2.2.2∧2 * a.2.1.left.length+3≤a.1∧a.1≤N∧a.2.1.left.length≤st.left.length∧(a.2.1.bad=false→a.2.1.nodes+a.2.1.left.length≤10000000000)∧a.2.2.2.length+a.2.1.left.length≤1000000000∧a.2.2.1+a.2.1.left.length≤1000000001) (fun a=>⟨zR 45 [(0,.ptr 2 0),(1,.p (.str [93])),(2,.func (.func 112) [] [.ptr 5 0,.ptr 6 0,.ptr 7 0]),(6,.p (.int .i64 a.2.2.1))],[2,5,6,7],[(2,.vars 85 (rdC a.2.1)),(5,.vars 42 [.p (.int .i64 6),.p (.int .u64 0),.p (.bool false),.p (.str []),.p (.int .i64 0),.p (.str []),.nilsl,.ms 8,.p (.int .i64 0)]),(6,.vars 83 [.ptr 2 0]),(7,.vars 3 [.p (.int .i64 d)]),(8,.row 42 9 (a.2.2.2.map Val.enc))],900⟩) (fun a=>a.1) ((N,sa,1,[])) ⟨rfl,by simp only; omega,by simp,by simp only; omega,fun _=>by simp only; omega,by simp; omega,by simp only; omega⟩ ⟨qJ (by simp),rfl,by simp [htn,htb,htd,htg],by simp⟩ ?_
 rintro ⟨n,s,many,vs⟩ ⟨hq,hf,hfN,hsl,hnl,hvl,hml⟩
 simp only at hq hf hfN hsl hnl hvl hml
 rw [hq]
 clear hq
 obtain ⟨n,rfl⟩:∃ g,n=g+1:=⟨n-1,by omega⟩
 rw [qEK]
 refine AW.seq (rgn [] [[],[],[],[],[0,1,2,6,14]] ?_)
 iterate 5 refine op1 tok ?_
 refine qA (cnd ?_ ?_)
 ·intro h14
  try simp at h14
  have hb:s.bad=false:=by simpa using h14
  rw [if_neg (by rw [hb]; simp)]
  have hnb:=hnl hb
  have hvn:=hv n s (by omega) (by omega) (by omega) (hnl hb) (by omega)
  have hle:=((zAF n).1 s d)
  have hln:=((zAE n).1 s d)
  refine AW.skip (AW.seq (AW.block (rgn [] [[]] ?_)))
  refine op1 tok ?_
  refine qP ?_
  refine qD.stepK [0,1,2,6] (zF rfl (zAD s (qN n s d).1 d (qN n s d).2 vs (by omega) hvn) (by simp)) (by conv=>lhs; simp) rfl ?_
  refine qD.nil ?_
  generalize qN n s d=A at *; obtain ⟨⟨l,nn,b,dp,bg⟩,v⟩:=A
  simp only at hle hln ⊢
  clear hvn
  have hdm:decide ((200:Int)<(many:Int))=decide (200<many):=by rw [decide_eq_decide]; omega
  refine rgn [] [[],[],[],[],[],[0,1,2,6,19,24],[],[],[],[0,1,2,6,27,28],[],[0,1,2,6]] ?_
  iterate 6 refine op1 tok ?_
  iterate 2 refine op2 tok ?_
  iterate 4 refine op1 tok ?_
  refine qA (AW.seq ?_)
  by_cases hs6:b=true
  ·
   simp only [hdm]
   first | subst hs6 | obtain rfl:b=false:=by simpa using hs6
   refine rgn [] [[],[],[],[],[0,1,2,6,34],[],[],[],[0,1,2,6,38]] ?_
   iterate 5 refine op1 tok ?_
   iterate 3 refine op2 tok ?_
   refine op1 tok ?_
   refine qA (cnd ?_ ?_)
   ·intro h38
    try simp at h38
    rw [show wF 93 many ⟨l,nn,true,dp,bg⟩=(true,⟨l,nn,true,dp,Bool.or bg (decide (200<many))⟩) by simp [wF]]
    exact AW.ret zI
   intro h38
   try simp at h38
  ·
   simp only [hdm]
   first | subst hs6 | obtain rfl:b=false:=by simpa using hs6
   refine rgn [] [[],[],[],[],[0,1,2,6,34],[],[]] ?_
   iterate 5 refine op1 tok ?_
   iterate 2 refine op2 tok ?_
   refine qP ?_
   refine qD.stepKIf [0,1,2,6,34,37] 34 rfl rfl (zF rfl (jC ⟨l,nn,false,dp,Bool.or bg (decide (200<many))⟩ [93]) (by simp)) (by simp) (by conv=>lhs; simp) ?_
   refine qD.run [[0,1,2,6,38]] ?_
   refine op1 tok ?_
   refine qA (cnd ?_ ?_)
   ·intro h38
    try simp at h38
    rw [show wF 93 many ⟨l,nn,false,dp,bg⟩=(true,(tk [93] ⟨l,nn,false,dp,Bool.or bg (decide (200<many))⟩).2) by simp [wF,h38]]
    exact AW.ret zI
   intro h38
   try simp at h38
   rw [show wF 93 many ⟨l,nn,false,dp,bg⟩=(false,{ (tk [44] (tk [93] ⟨l,nn,false,dp,Bool.or bg (decide (200<many))⟩).2).2 with bad := !(tk [44] (tk [93] ⟨l,nn,false,dp,Bool.or bg (decide (200<many))⟩).2).1 }) by simp [wF,h38]]
   have hx:=(vF [93] ⟨l,nn,false,dp,Bool.or bg (decide (200<many))⟩).1
   have hy:=(vF [44] (tk [93] ⟨l,nn,false,dp,Bool.or bg (decide (200<many))⟩).2).1
   simp only [Bool.false_eq_true,if_false]
   simp only at hx
   have hlt:=hle.2 rfl
   have hl2:=(hln rfl).2
   refine AW.skip (rgz [] [[],[]] ?_)
   iterate 2 refine op1 tok ?_
   refine qP ?_
   refine qD.stepK [0,1,2,6,39,41] (zF rfl (jC (tk [93] ⟨l,nn,false,dp,Bool.or bg (decide (200<many))⟩).2 [44]) (by simp)) (by conv=>lhs; simp) rfl ?_
   refine qD.run [[],[],[],[0,1,2,6]] ?_
   iterate 4 refine op1 tok ?_
   refine qA (rgz [] [[],[],[0,1,2,6]] ?_)
   iterate 3 refine op1 tok ?_
   refine qA ?_
   exact ⟨(n,{ (tk [44] (tk [93] ⟨l,nn,false,dp,Bool.or bg (decide (200<many))⟩).2).2 with bad := !(tk [44] (tk [93] ⟨l,nn,false,dp,Bool.or bg (decide (200<many))⟩).2).1 },many+1,vs++[v]),⟨by simp,by simp only; omega,by omega,by simp only; omega,fun _=>by simp only [yA]; omega,by simp; omega,by simp only; omega⟩,by simp only; omega,qJ (by simp),rfl,by simp,by simp⟩
 intro h14
 try simp at h14
 rw [if_pos (show s.bad=true by simpa using h14)]
 refine AW.exit ?_
 simp
 exact qJU
theorem zDU (N:Nat) (st:RS) (d:Nat) (hN:2 * st.left.length+3≤N) (hl:st.left.length≤1000000000) (hk:st.nodes+st.left.length≤10000000000) (hd:d+st.left.length≤10000000000) (hv:qGF G N d):AX Tryz.prog G 79 [.ptr 2 0,.p (.int .i64 d)] [(2,.vars 85 (rdC st))] (.agg (Val.mk 6 0 dc0 [] [] (qOG N st d).2 0).cells) [2] [(2,.vars 85 (rdC (qOG N st d).1))]:=by
 refine AX.introU tok 900 Tryz.func79 (by kernel_rfl) rfl rfl ?_
 simp only [Tryz.f79,qR,List.map_cons,List.map_nil]
 refine rgn [] [[],[],[2,3,4]] ?_
 iterate 3 refine op1 tok ?_
 refine qA (rgn [] [[],[],[2,3,4,5]] ?_)
 iterate 3 refine op1 tok ?_
 refine qA ?_
 refine AW.renE 902 6 (by simp) (by conv=>lhs; simp) ?_
 refine AW.renE 903 7 (by simp) (by conv=>lhs; simp) ?_
 refine AW.renE 905 5 (by simp) (by conv=>lhs; simp) ?_
 refine AW.beginBox 5 8 7 42 9 (by simp; exact ⟨rfl,rfl⟩) (by simp) (by simp) (by conv=>lhs; simp) ?_
 refine rgn [] [[],[]] ?_
 iterate 2 refine op1 tok ?_
 refine qP ?_
 refine qD.stepK [4,5] (zF rfl (zAZ N st d hN hl hk hd hv) (by simp)) (by conv=>lhs; simp) rfl ?_
 refine qD.nil ?_
 refine AW.fillE 5 [none,none,none,none,none,none,some 1] (by conv=>lhs; simp) ?_
 refine AW.freeze 8 ?_
 refine rgn [] [[],[4]] ?_
 iterate 2 refine op1 tok ?_
 refine qA ?_
 exact AW.ret (zI (k:=by simp [dc0]))
def qXU (ks:List (List UInt8)) (s:List UInt8):Int:=if s∈ks then (ks.idxOf s:Int) else -1
theorem zEA (l:List (List UInt8)) (s:List UInt8):AX Tryz.prog G 114 [.ms 3,.p (.str s)] [(3,.row 9 1 (l.map PD.str))] (.p (.int .i64 (qXU l s))) [3] [(3,.row 9 1 (l.map PD.str))]:=by
 refine AX.introU tok 900 Tryz.func114 (by kernel_rfl) rfl rfl ?_
 simp only [Tryz.f114,qR,List.map_cons,List.map_nil]
 refine rgn [] [[0,1]] ?_
 refine op1 tok ?_
 refine qA (AW.seq (rgn [] [[],[],[0,1,7,8]] ?_))
 iterate 3 refine op1 tok ?_
 refine qA (AW.block ?_)
 refine AW.intFactU (i:=7) rfl (by decide) ?_; intro hlen; simp at hlen
 refine AW.loop (α:=Nat) (fun k=>k≤l.length∧s ∉ l.take k) (fun k=>⟨zR 19 [(0,.ms 3),(1,.p (.str s)),(7,.p (.int .i64 l.length)),(8,.p (.int .i64 k))],[3],[(3,.row 9 1 (l.map PD.str))],900⟩) (fun k=>l.length-k) (0) ⟨by omega,by simp⟩ ⟨qJ (by simp),rfl,by simp,by simp⟩ ?_
 rintro k ⟨hk,hno⟩
 refine rgn [] [[]] ?_
 refine op1 tok ?_
 refine qA (AW.seq (cnd ?_ ?_))
 ·intro h9
  try simp at h9
  obtain ⟨x,hx⟩:∃ x,l[k]?=some x:=⟨l[k],by simp [h9]⟩
  refine AW.skip (AW.seq (AW.block (rgn [] [[],[0,1,5,7,8]] ?_)))
  iterate 2 refine op1 tok ?_
  refine qA (rgn [.str x] [[],[],[],[],[],[0,1,5,7,8,16]] ?_)
  iterate 6 refine op1 tok ?_ (hv:=by first | with_reducible exact True.intro | (simp [hx]; done) | omega | simp | (simp +contextual; omega))
  refine qA (cnd ?_ ?_)
  ·intro h16
   try simp at h16
   have hR:qXU l s=k:=by
    have hm:s∈l:=by rw [h16]; exact List.mem_of_getElem? hx
    unfold qXU; rw [if_pos hm]
    have:l.idxOf s=k:=by
     obtain ⟨h1,h2⟩:=List.getElem?_eq_some_iff.1 hx
     have h3:=List.take_append_drop k l
     rw [← h3,List.idxOf_append,if_neg hno,List.drop_eq_getElem_cons h1,h2,h16,List.idxOf_cons_self]
     simp; omega
    rw [this]
   refine rgn [] [[],[4]] ?_
   iterate 2 refine op1 tok ?_
   refine qA ?_
   exact AW.ret (zI (k:=by simp [hR]))
  intro h16
  try simp at h16
  refine AW.skip (rgz [] [[],[0,1,7,8]] ?_)
  iterate 2 refine op1 tok ?_
  refine qA ?_
  exact ⟨k+1,⟨by omega,by rw [List.take_add_one,hx]; simp; exact ⟨hno,h16⟩⟩,by omega,qJ (by simp),rfl,by simp,by simp⟩
 intro h9
 try simp at h9
 have hR:qXU l s = -1:=by rw [List.take_of_length_le h9] at hno; unfold qXU; rw [if_neg hno]
 refine AW.exit ?_
 simp
 refine rgn [] [[]] ?_
 refine op1 tok ?_
 refine qA ?_
 exact AW.ret (zI (k:=by simp [hR]))
def yI (q:RS × List UInt8) (ks:List (List UInt8)) (vs:List Val) (v:RS × Val):RS × List (List UInt8) × List Val:=if (qK q.1).bad=true then (qK q.1,ks,vs) else (v.1,uQ ks vs q.2 v.2)
theorem zDN (hG:U8 G) (st:RS) (d:Nat) (v:RS × Val) (ks:List (List UInt8)) (vs:List Val) (hl:st.left.length≤1000000000) (hlen:ks.length=vs.length) (hvl:vs.length≤1000000000) (hv:(qK (qB st).1).bad=false→AX Tryz.prog G 47 [.ptr 2 0,.p (.int .i64 d)] [(2,.vars 85 (rdC (qK (qB st).1)))] (.agg v.2.cells) [2] [(2,.vars 85 (rdC v.1))]):AX Tryz.prog G 113 [.ptr 6 0,.ptr 7 0,.ptr 5 0] [(2,.vars 85 (rdC st)),(5,.vars 42 [.p (.int .i64 7),.p (.int .u64 0),.p (.bool false),.p (.str []),.p (.int .i64 0),.p (.str []),.ms 3,.ms 8,.p (.int .i64 0)]),(6,.vars 83 [.ptr 2 0]),(7,.vars 3 [.p (.int .i64 d)]),(3,.row 9 1 (ks.map PD.str)),(8,.row 42 9 (vs.map Val.enc))] (.tuple []) [2,5,6,7] [(2,.vars 85 (rdC (yI (qB st) ks vs v).1)),(5,.vars 42 [.p (.int .i64 7),.p (.int .u64 0),.p (.bool false),.p (.str []),.p (.int .i64 0),.p (.str []),.ms 3,.ms 8,.p (.int .i64 0)]),(6,.vars 83 [.ptr 2 0]),(7,.vars 3 [.p (.int .i64 d)]),(3,.row 9 1 ((yI (qB st) ks vs v).2.1.map PD.str)),(8,.row 42 9 ((yI (qB st) ks vs v).2.2.map Val.enc))]:=by
 refine AX.introU tok 900 Tryz.func113 (by kernel_rfl) rfl rfl ?_
 simp only [Tryz.f113,qR,List.map_cons,List.map_nil]
 refine rgn [] [[]] ?_
 refine op1 tok ?_
 refine qP ?_
 refine qD.stepK [0,1,2,7] (zF rfl (qLR hG st hl) (by simp)) (by conv=>lhs; simp) rfl ?_
 refine qD.run [[0,1,2,3]] ?_
 refine op1 tok ?_
 refine qA (AW.seq ?_)
 by_cases hs1:(qB st).1.bad=true
 ·
  generalize qB st=q at *; obtain ⟨⟨l,nn,b,dp,bg⟩,key⟩:=q
  simp only at hs1 hv ⊢
  first | subst hs1 | obtain rfl:b=false:=by simpa using hs1
  refine AW.seqDrawS tok mixed 13 [[0],[0],[9],[10],[11],[12],[0,13],[14,13],[15,13],[13,16],[8],[18],[19,17]] [] [] (by kernel_rfl) ?_
  iterate 6 refine d1 ?_
  iterate 3 refine d2 13 rfl rfl ?_
  iterate 4 refine d1 ?_
  refine DGo.nil (by kernel_rfl) ⟨by kernel_rfl, ?_⟩
  refine qD.nil ?_
  refine rgn [] [[],[],[],[0,1,2,3,23]] ?_
  iterate 4 refine op1 tok ?_
  refine qA (cnd ?_ ?_)
  ·intro h23
   try simp at h23
   rw [show yI (⟨l,nn,true,dp,bg⟩,key) ks vs v=(⟨l,nn,true,dp,bg⟩,ks,vs) by simp [yI,qK]]
   exact AW.ret zI
  intro h23
  try simp at h23
 ·
  generalize qB st=q at *; obtain ⟨⟨l,nn,b,dp,bg⟩,key⟩:=q
  simp only at hs1 hv ⊢
  first | subst hs1 | obtain rfl:b=false:=by simpa using hs1
  have htk:=jC (G:=G) ⟨l,nn,false,dp,bg⟩ [58]
  simp only [rdC] at htk
  have hcl:qK ⟨l,nn,false,dp,bg⟩={ (tk [58] ⟨l,nn,false,dp,bg⟩).2 with bad := !(tk [58] ⟨l,nn,false,dp,bg⟩).1 }:=rfl
  rw [hcl] at hv
  simp only [yI,hcl]
  have htn:=yA [58] ⟨l,nn,false,dp,bg⟩
  have htd:=qNK [58] ⟨l,nn,false,dp,bg⟩
  have htg:=qIG [58] ⟨l,nn,false,dp,bg⟩
  refine AW.seqDrawS tok mixed 13 [[0],[0],[9],[10],[11],[12],[0,13],[14,13],[15,13],[13,16],[8],[18],[19,17]] [.ref [.str (tk [58] ⟨l,nn,false,dp,bg⟩).2.left,.int .i64 (tk [58] ⟨l,nn,false,dp,bg⟩).2.nodes,.bool (tk [58] ⟨l,nn,false,dp,bg⟩).2.bad,.bool (tk [58] ⟨l,nn,false,dp,bg⟩).2.deep,.bool (tk [58] ⟨l,nn,false,dp,bg⟩).2.big],.bool (tk [58] ⟨l,nn,false,dp,bg⟩).1] [] (by kernel_rfl) ?_
  iterate 6 refine d1 ?_ (hv:=by first | with_reducible exact True.intro | (simpa [qL] using htk; done) | omega | simp | (simp +contextual; omega))
  iterate 3 refine d2 13 rfl rfl ?_ (hv:=by first | with_reducible exact True.intro | (simpa [qL] using htk; done) | omega | simp | (simp +contextual; omega))
  iterate 4 refine d1 ?_ (hv:=by first | with_reducible exact True.intro | (simpa [qL] using htk; done) | omega | simp | (simp +contextual; omega))
  refine DGo.nil (by kernel_rfl) ⟨by kernel_rfl, ?_⟩
  refine qD.nil ?_
  refine rgn [] [[],[],[],[0,1,2,3,23]] ?_
  iterate 4 refine op1 tok ?_
  refine qA (cnd ?_ ?_)
  ·intro h23
   try simp at h23
   rw [if_pos (by simpa using h23)]
   exact AW.ret zI
  intro h23
  try simp at h23
  rw [if_neg (by simpa using h23)]
  have hv:=hv (by simpa using h23)
  obtain ⟨sv,v⟩:=v
  refine AW.skip (rgn [] [[],[]] ?_)
  iterate 2 refine op1 tok ?_
  refine qP ?_
  refine qD.stepK [2,3,26] (zF rfl hv (by simp [h23,htn,htd,htg])) (by conv=>lhs; simp) rfl ?_
  refine qD.run [[],[2,3,4]] ?_
  iterate 2 refine op1 tok ?_
  refine qA (AW.seq (rgn [] [[],[],[]] ?_))
  iterate 3 refine op1 tok ?_
  refine qP ?_
  refine qD.stepK [2,3,4,30] (zF rfl (zEA ks key) (by simp)) (by conv=>lhs; simp) rfl ?_
  refine qD.run [[2,3,4,5]] ?_
  refine op1 tok ?_
  refine qA ?_
  have hidx:qXU ks key=if key∈ks then (ks.idxOf key:Int) else -1:=rfl; have hput:uQ ks vs key v=if key∈ks then (ks,vs.set (ks.idxOf key) v) else (ks++[key],vs++[v]):=rfl
  refine rgn [] [[],[2,3,4,5,32]] ?_
  iterate 2 refine op1 tok ?_
  refine qA (cnd ?_ ?_)
  ·intro h32
   try simp at h32
   have hm:key∈ks:=by false_or_by_contra; rename_i hm; rw [if_neg hm] at hidx; omega
   rw [if_pos hm] at hidx hput
   have hi:=List.idxOf_lt_length_iff.2 hm
   rw [hidx,hput]
   obtain ⟨o,ho⟩:∃ o,vs[ks.idxOf key]?=some o:=⟨vs[ks.idxOf key]'(by omega),by simp⟩
   have hio:ks.idxOf key<vs.length:=by omega
   refine rgn [o.enc,v.enc] [[],[],[],[34,35,36],[],[50]] ?_
   iterate 6 refine op1 tok ?_ (hv:=by first | with_reducible exact True.intro | (first | omega | (simp [ho]; done) | (simp [ho,Val.cells,V.fitsL]; done); done) | omega | simp | (simp +contextual; omega))
   refine qA ?_
   exact AW.ret zI
  intro h32
  try simp at h32
  have hm:key ∉ ks:=by intro hm; rw [if_pos hm] at hidx; omega
  rw [hput,if_neg hm]
  refine AW.skip ?_
  refine AW.drawS tok mixed 12 [[2],[38],[3],[40],[39,41],[2],[43],[4],[45],[44,46],[2],[48,42]] [.str key,v.enc] [] (by kernel_rfl) ?_
  iterate 12 refine d1 ?_ (h:=by intro C; conv=>lhs; simp [Value.oneCell']) (hv:=by first | with_reducible exact True.intro | (first | omega | (simp; omega); done) | omega | simp | (simp +contextual; omega))
  refine DGo.nil (by kernel_rfl) ⟨by kernel_rfl, ?_⟩
  refine qD.run [[],[50]] ?_
  iterate 2 refine op1 tok ?_ (h:=by intro C; conv=>lhs; simp [Value.oneCell'])
  refine qP ?_
  refine qD.take 942 3 (by conv=>lhs; simp) ?_
  refine qD.take 947 8 (by conv=>lhs; simp) ?_
  refine qD.nil ?_
  exact qJU
def qEI (n:Nat) (st:RS) (d:Nat):RS × List (List UInt8) × List Val:=if (tk [125] st).1=true then ((tk [125] st).2,[],[]) else zZ n (tk [125] st).2 d 1 [] []
theorem qVP {ks:List (List UInt8)} {vs:List Val} (h:ks.length=vs.length) (key:List UInt8) (v:Val):(uQ ks vs key v).1.length=(uQ ks vs key v).2.length∧vs.length≤(uQ ks vs key v).2.length∧(uQ ks vs key v).2.length≤vs.length+1:=by
 unfold uQ; split
 ·simp [h]
 simp [h]
theorem qEH (n : Nat) (st : RS) (d many : Nat) (ks : List (List UInt8)) (vs : List Val) : zZ (n + 1) st d many ks vs = if st.bad = true then (st, ks, vs) else if (wF 125 many (yI (qB st) ks vs (qN n (qK (qB st).1) d)).1).1 = true then ((wF 125 many (yI (qB st) ks vs (qN n (qK (qB st).1) d)).1).2, (yI (qB st) ks vs (qN n (qK (qB st).1) d)).2)
  else zZ n (wF 125 many (yI (qB st) ks vs (qN n (qK (qB st).1) d)).1).2 d (many+1) (yI (qB st) ks vs (qN n (qK (qB st).1) d)).2.1 (yI (qB st) ks vs (qN n (qK (qB st).1) d)).2.2:=by
 rw [zZ]; rfl
theorem qXX (n : Nat) (s : RS) (d : Nat) (ks : List (List UInt8)) (vs : List Val) (hl : ks.length = vs.length) : (yI (qB s) ks vs (qN n (qK (qB s).1) d)).2.1.length = (yI (qB s) ks vs (qN n (qK (qB s).1) d)).2.2.length ∧
  (yI (qB s) ks vs (qN n (qK (qB s).1) d)).1.left.length≤s.left.length∧((yI (qB s) ks vs (qN n (qK (qB s).1) d)).1.bad=false→(yI (qB s) ks vs (qN n (qK (qB s).1) d)).1.left.length<s.left.length ∧
   (yI (qB s) ks vs (qN n (qK (qB s).1) d)).1.nodes+(yI (qB s) ks vs (qN n (qK (qB s).1) d)).1.left.length≤s.nodes+s.left.length∧(yI (qB s) ks vs (qN n (qK (qB s).1) d)).2.2.length≤vs.length+1):=by
 have h1:=uC s
 have h2:=qEX (qB s).1
 have h3:=jF s
 have h4:=vM (qB s).1
 have h5:=(zAF n).1 (qK (qB s).1) d
 have h6:=(zAE n).1 (qK (qB s).1) d
 unfold yI
 split
 ·rename_i hb
  refine ⟨hl,by simp only; omega,fun h => ?_⟩
  simp only at h
  rw [hb] at h; cases h
 obtain ⟨p1,p2,p3⟩:=qVP hl (qB s).2 (qN n (qK (qB s).1) d).2
 refine ⟨p1,by simp only; omega,fun h => ?_⟩
 have h7:=h5.2 h
 have h8:=h6 h
 exact ⟨by simp only; omega,by simp only; omega,p3⟩
theorem zAY (hG:U8 G) (N:Nat) (st:RS) (d:Nat) (hN:2 * st.left.length+3≤N) (hl:st.left.length≤1000000000) (hk:st.nodes+st.left.length≤10000000000) (hd:d+st.left.length≤10000000000) (hv:qGF G N d):AX Tryz.prog G 111 [.ptr 2 0,.p (.str [125]),.func (.func 113) [] [.ptr 6 0,.ptr 7 0,.ptr 5 0]] [(2,.vars 85 (rdC st)),(5,.vars 42 [.p (.int .i64 7),.p (.int .u64 0),.p (.bool false),.p (.str []),.p (.int .i64 0),.p (.str []),.ms 3,.ms 8,.p (.int .i64 0)]),(6,.vars 83 [.ptr 2 0]),(7,.vars 3 [.p (.int .i64 d)]),(3,.row 9 1 (([]:List (List UInt8)).map PD.str)),(8,.row 42 9 (([]:List Val).map Val.enc))] (.tuple []) [2,5,6,7] [(2,.vars 85 (rdC (qEI N st d).1)),(5,.vars 42 [.p (.int .i64 7),.p (.int .u64 0),.p (.bool false),.p (.str []),.p (.int .i64 0),.p (.str []),.ms 3,.ms 8,.p (.int .i64 0)]),(6,.vars 83 [.ptr 2 0]),(7,.vars 3 [.p (.int .i64 d)]),(3,.row 9 1 ((qEI N st d).2.1.map PD.str)),(8,.row 42 9 ((qEI N st d).2.2.map Val.enc))]:=by
 refine AX.introU tok 900 Tryz.func111 (by kernel_rfl) rfl rfl ?_
 simp only [Tryz.f111,qR,List.map_cons,List.map_nil]
 have hM:qEI N st d=if (tk [125] st).1=true then ((tk [125] st).2,[],[]) else zZ N (tk [125] st).2 d 1 [] []:=rfl
 rw [hM]
 have htl:=(vF [125] st).1
 have htn:=yA [125] st
 have htb:=qAR [125] st
 have htd:=qNK [125] st
 have htg:=qIG [125] st
 refine AW.seq (rgn [] [[],[]] ?_)
 iterate 2 refine op1 tok ?_
 refine qP ?_
 refine qD.stepK [0,1,2,9] (zF rfl (jC st [125]) (by simp)) (by conv=>lhs; simp) rfl ?_
 refine qD.nil ?_
 refine cnd ?_ ?_
 ·intro h9
  try simp at h9
  rw [if_pos h9]
  exact AW.ret zI
 intro h9
 try simp at h9
 rw [if_neg (by rw [h9]; simp)]
 generalize (tk [125] st).2=sa at *
 refine AW.skip (rgn [] [[]] ?_)
 refine op1 tok ?_
 refine qA (AW.block ?_)
 refine AW.pinsTo [2,5,6,7] (by simp) (by conv=>lhs; simp) ?_
 refine AW.loop (α:=Nat × RS × Nat × List (List UInt8) × List Val) (fun a=>zZ N sa d 1 [] []=zZ a.1 a.2.1 d a.2.2.1 a.2.2.2.1 a.2.2.2.2∧2 * a.2.1.left.length+3≤a.1∧a.1≤N∧a.2.1.left.length≤st.left.length∧(a.2.1.bad=false→a.2.1.nodes+a.2.1.left.length≤10000000000)∧a.2.2.2.2.length+a.2.1.left.length≤1000000000∧a.2.2.1+a.2.1.left.length≤1000000001∧a.2.2.2.1.length=a.2.2.2.2.length) (fun a=>⟨zR 45 [(0,.ptr 2 0),(1,.p (.str [125])),(2,.func (.func 113) [] [.ptr 6 0,.ptr 7 0,.ptr 5 0]),(6,.p (.int .i64 a.2.2.1))],[2,5,6,7],[(2,.vars 85 (rdC a.2.1)),(5,.vars 42 [.p (.int .i64 7),.p (.int .u64 0),.p (.bool false),.p (.str []),.p (.int .i64 0),.p (.str []),.ms 3,.ms 8,.p (.int .i64 0)]),(6,.vars 83 [.ptr 2 0]),(7,.vars 3 [.p (.int .i64 d)]),(3,.row 9 1 (a.2.2.2.1.map PD.str)),(8,.row 42 9 (a.2.2.2.2.map Val.enc))],900⟩) (fun a=>a.1) ((N,sa,1,[],[])) ⟨rfl,by simp only; omega,by simp,by simp only; omega,fun _=>by simp only; omega,by simp; omega,by simp only; omega,rfl⟩ ⟨qJ (by simp),rfl,by simp [htn,htb,htd,htg],by simp⟩ ?_
 rintro ⟨n,s,many,ks,vs⟩ ⟨hq,hf,hfN,hsl,hnl,hvl,hml,hlen⟩
 simp only at hq hf hfN hsl hnl hvl hml hlen
 rw [hq]
 clear hq
 obtain ⟨n,rfl⟩:∃ g,n=g+1:=⟨n-1,by omega⟩
 rw [qEH]
 refine AW.seq (rgn [] [[],[],[],[],[0,1,2,6,14]] ?_)
 iterate 5 refine op1 tok ?_
 refine qA (cnd ?_ ?_)
 ·intro h14
  try simp at h14
  have hb:s.bad=false:=by simpa using h14
  rw [if_neg (by rw [hb]; simp)]
  have hcl:=Nat.le_trans (qEX (qB s).1) (uC s)
  have hcn:(qK (qB s).1).nodes=s.nodes:=(vM _).trans (jF s)
  have hnb:=hnl hb
  have hvn:=hv n (qK (qB s).1) (by omega) (by omega) (by omega) (by omega) (by omega)
  have hent:=qXX n s d ks vs hlen
  refine AW.skip (AW.seq (AW.block (rgn [] [[]] ?_)))
  refine op1 tok ?_
  refine qP ?_
  refine qD.stepK [0,1,2,6] (zF rfl (zDN hG s d (qN n (qK (qB s).1) d) ks vs (by omega) hlen (by omega) (fun _=>hvn)) (by simp)) (by conv=>lhs; simp) rfl ?_
  refine qD.nil ?_
  generalize yI (qB s) ks vs (qN n (qK (qB s).1) d)=A at *; obtain ⟨⟨l,nn,b,dp,bg⟩,ks2,vs2⟩:=A
  simp only at hent ⊢
  clear hvn
  have hdm:decide ((200:Int)<(many:Int))=decide (200<many):=by rw [decide_eq_decide]; omega
  refine rgn [] [[],[],[],[],[],[0,1,2,6,19,24],[],[],[],[0,1,2,6,27,28],[],[0,1,2,6]] ?_
  iterate 6 refine op1 tok ?_
  iterate 2 refine op2 tok ?_
  iterate 4 refine op1 tok ?_
  refine qA (AW.seq ?_)
  by_cases hs6:b=true
  ·
   simp only [hdm]
   first | subst hs6 | obtain rfl:b=false:=by simpa using hs6
   refine rgn [] [[],[],[],[],[0,1,2,6,34],[],[],[],[0,1,2,6,38]] ?_
   iterate 5 refine op1 tok ?_
   iterate 3 refine op2 tok ?_
   refine op1 tok ?_
   refine qA (cnd ?_ ?_)
   ·intro h38
    try simp at h38
    rw [show wF 125 many ⟨l,nn,true,dp,bg⟩=(true,⟨l,nn,true,dp,Bool.or bg (decide (200<many))⟩) by simp [wF]]
    exact AW.ret zI
   intro h38
   try simp at h38
  ·
   simp only [hdm]
   first | subst hs6 | obtain rfl:b=false:=by simpa using hs6
   refine rgn [] [[],[],[],[],[0,1,2,6,34],[],[]] ?_
   iterate 5 refine op1 tok ?_
   iterate 2 refine op2 tok ?_
   refine qP ?_
   refine qD.stepKIf [0,1,2,6,34,37] 34 rfl rfl (zF rfl (jC ⟨l,nn,false,dp,Bool.or bg (decide (200<many))⟩ [125]) (by simp)) (by simp) (by conv=>lhs; simp) ?_
   refine qD.run [[0,1,2,6,38]] ?_
   refine op1 tok ?_
   refine qA (cnd ?_ ?_)
   ·intro h38
    try simp at h38
    rw [show wF 125 many ⟨l,nn,false,dp,bg⟩=(true,(tk [125] ⟨l,nn,false,dp,Bool.or bg (decide (200<many))⟩).2) by simp [wF,h38]]
    exact AW.ret zI
   intro h38
   try simp at h38
   rw [show wF 125 many ⟨l,nn,false,dp,bg⟩=(false,{ (tk [44] (tk [125] ⟨l,nn,false,dp,Bool.or bg (decide (200<many))⟩).2).2 with bad := !(tk [44] (tk [125] ⟨l,nn,false,dp,Bool.or bg (decide (200<many))⟩).2).1 }) by simp [wF,h38]]
   have hx:=(vF [125] ⟨l,nn,false,dp,Bool.or bg (decide (200<many))⟩).1
   have hy:=(vF [44] (tk [125] ⟨l,nn,false,dp,Bool.or bg (decide (200<many))⟩).2).1
   simp only [Bool.false_eq_true,if_false]
   simp only at hx
   obtain ⟨hlt,hl2,hl3⟩:=hent.2.2 rfl
   refine AW.skip (rgz [] [[],[]] ?_)
   iterate 2 refine op1 tok ?_
   refine qP ?_
   refine qD.stepK [0,1,2,6,39,41] (zF rfl (jC (tk [125] ⟨l,nn,false,dp,Bool.or bg (decide (200<many))⟩).2 [44]) (by simp)) (by conv=>lhs; simp) rfl ?_
   refine qD.run [[],[],[],[0,1,2,6]] ?_
   iterate 4 refine op1 tok ?_
   refine qA (rgz [] [[],[],[0,1,2,6]] ?_)
   iterate 3 refine op1 tok ?_
   refine qA ?_
   exact ⟨(n,{ (tk [44] (tk [125] ⟨l,nn,false,dp,Bool.or bg (decide (200<many))⟩).2).2 with bad := !(tk [44] (tk [125] ⟨l,nn,false,dp,Bool.or bg (decide (200<many))⟩).2).1 },many+1,ks2,vs2),⟨by simp,by simp only; omega,by omega,by simp only; omega,fun _=>by simp only [yA]; omega,by simp only; omega,by simp only; omega,hent.1⟩,by simp only; omega,qJ (by simp),rfl,by simp,by simp⟩
 intro h14
 try simp at h14
 rw [if_pos (show s.bad=true by simpa using h14)]
 refine AW.exit ?_
 simp
 exact qJU
theorem qXH (hG:U8 G) (N:Nat) (st:RS) (d:Nat) (hN:2 * st.left.length+3≤N) (hl:st.left.length≤1000000000) (hk:st.nodes+st.left.length≤10000000000) (hd:d+st.left.length≤10000000000) (hv:qGF G N d):AX Tryz.prog G 80 [.ptr 2 0,.p (.int .i64 d)] [(2,.vars 85 (rdC st))] (.agg (Val.mk 7 0 dc0 [] (qEI N st d).2.1 (qEI N st d).2.2 0).cells) [2] [(2,.vars 85 (rdC (qEI N st d).1))]:=by
 refine AX.introU tok 900 Tryz.func80 (by kernel_rfl) rfl rfl ?_
 simp only [Tryz.f80,qR,List.map_cons,List.map_nil]
 refine rgn [] [[],[],[2,3,4]] ?_
 iterate 3 refine op1 tok ?_
 refine qA (rgn [] [[],[],[2,3,4,5]] ?_)
 iterate 3 refine op1 tok ?_
 refine qA ?_
 refine AW.renE 902 6 (by simp) (by conv=>lhs; simp) ?_
 refine AW.renE 903 7 (by simp) (by conv=>lhs; simp) ?_
 refine AW.renE 905 5 (by simp) (by conv=>lhs; simp) ?_
 refine AW.beginBox 5 3 6 9 1 (by simp; exact ⟨rfl,rfl⟩) (by simp) (by simp) (by conv=>lhs; simp) ?_
 refine AW.beginBox 5 8 7 42 9 (by simp; exact ⟨rfl,rfl⟩) (by simp) (by simp) (by conv=>lhs; simp) ?_
 refine rgn [] [[],[]] ?_
 iterate 2 refine op1 tok ?_
 refine qP ?_
 refine qD.stepK [4,5] (zF rfl (zAY hG N st d hN hl hk hd hv) (by simp)) (by conv=>lhs; simp) rfl ?_
 refine qD.nil ?_
 refine AW.freeze 3 ?_
 refine AW.freeze 8 ?_
 refine rgn [] [[],[4]] ?_
 iterate 2 refine op1 tok ?_
 refine qA ?_
 exact AW.ret (zI (k:=by simp [dc0]))
end Go.Proofs.YtlmedakhioiahaaGreatDoor
