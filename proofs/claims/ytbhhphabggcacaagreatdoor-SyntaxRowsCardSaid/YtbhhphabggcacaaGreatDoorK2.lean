import Derived.Test.YtbhhphabggcacaaGreatDoorK1
import Derived.Test.YtbhhphabggcacaaGreatDoorM3
import Derived.Shelf.Strings.Builder1
import Derived.Shelf.Unicode.DecodeAny
import Derived.Lib.MapLaws
import Derived.Maps.RangeRun
namespace Go.Proofs.YtbhhphabggcacaaGreatDoor
open Sy Go
set_option maxRecDepth 100000
set_option linter.unusedSimpArgs false
set_option linter.unusedVariables false
variable {G:qM}
def qUU (u:Bool):V:=if u then .ptr 2 0 else .p .nilp
def uR (u:Bool) (bs:List UInt8):List (Nat × Box):=[(2,.vars 85 [qUU u,.ms 3]),(3,.row 5 1 (qJ bs))]
theorem qNC:(Tryz.prog.info? 85).map (·.size)=some 2:=by kernel_rfl
theorem qUT:liesAt Tryz.prog Tryz.prog.depth 85 (2 / Tryz.prog.cellsOf 85) 0 85 1=true:=by kernel_rfl
section
set_option maxHeartbeats 1000000 in
theorem qXE (b : Nat) (w : World) (h0 : w.cell? ⟨b, 0, none⟩ = some (.pointer (some ⟨b, 0, none⟩))) :
  Calls Tryz.prog 77 #[.pointer (some ⟨b,0,none⟩)] w fun e w'=>e = .returned (.tuple #[])∧w'=w:=by
 obtain ⟨j,hj,_⟩:=Option.map_eq_some_iff.1 qNC
 go_enter Tryz.func77,Tryz.ntmps77
 go_wp2
 rw [Lib.run_neq_ptr_same w _ Tryz.underlying82 hj]
 go_wp2
 go_end0
 exact ⟨rfl,rfl⟩
set_option maxHeartbeats 1000000 in
theorem qUN (b : Nat) (w : World) (h0 : w.cell? ⟨b, 0, none⟩ = some (.pointer none)) (hsh : w.shape? b = some (85, 2)) (hfz : w.frozen? ⟨b, 0, none⟩ = false) :
  Calls Tryz.prog 77 #[.pointer (some ⟨b,0,none⟩)] w fun e w'=>e = .returned (.tuple #[])∧w'=w.setCell ⟨b,0,none⟩ (.pointer (some ⟨b,0,none⟩)):=by
 obtain ⟨j,hj,hjs⟩:=Option.map_eq_some_iff.1 qNC
 go_enter Tryz.func77,Tryz.ntmps77
 go_wp2
 rw [Lib.run_to_unsafe w ⟨b,0,none⟩ Tryz.underlying82 Tryz.underlying130 hj (by rw [hjs]; decide) hsh (Nat.zero_lt_succ 1)]
 simp only [Result.andThen]
 rw [Oper.upon_value]
 go_wp2
 rw [run_callFunc_extern Tryz.func98 (by kernel_rfl) (by kernel_rfl) (by kernel_rfl) (e:=Extern.AbiNoEscape.same) (by kernel_rfl)]
 rw [Lib.run_noEscape]
 simp only [Result.andThen]
 rw [Oper.upon_value]
 go_wp2
 rw [Lib.run_from_unsafe w ⟨b,0,none⟩ Tryz.underlying130 Tryz.underlying82 hj hsh qUT]
 simp only [Result.andThen]
 rw [Oper.upon_value]
 go_wp2
 go_end0
 exact ⟨rfl,rfl⟩
end
theorem qCV (u:Bool) (bs:List UInt8):AX Tryz.prog G 77 [.ptr 2 0] (uR u bs) (.tuple []) [2,3] (uR true bs):=by
 refine ⟨kN Tryz.func77 (by kernel_rfl) rfl,fun M μ w vs hg rel => ?_⟩
 obtain ⟨l⟩:=vs
 have hsz:l.length=1:=by simpa using rel.slots.1
 match l,hsz with
 | [v],_ =>
 have hv:=rel.slots.2 0 v (.ptr 2 0) rfl rfl
 cases hv with
 | @ptr _ _ b hb =>
 have hbx:=rel.box 2 (.vars 85 [qUU u,.ms 3]) (by simp [uR])
 cases hbx with
 | @vars _ _ b' arr h0 hh hs ho hc =>
 rw [hb] at h0; cases h0
 obtain ⟨x,y,rfl⟩:∃ x y,arr = #[x,y]:=by
  obtain ⟨l⟩:=arr
  match l,hs with
  | [x,y],_=>exact ⟨x,y,rfl⟩
 have hx:=hc 0 x (qUU u) rfl rfl
 have hy:=hc 1 y (.ms 3) rfl rfl
 have hfin : ∀ w', Rel ⟨w.heap.size, w, M, μ, wE μ (uR u bs)⟩ M μ ⟨[.ptr 2 0], (uR u bs).map (·.1), uR true bs, 0⟩ #[.pointer (some ⟨b, 0, none⟩)] w' →
   ∃ v M' μ',(Ending.returned (.tuple #[]):Ending) = .returned v∧Rel ⟨w.heap.size,w,M,μ,wE μ (uR u bs)⟩ M' μ' ⟨[.tuple []],[2,3],uR true bs,0⟩ #[v] w':=by
  intro w' r
  refine ⟨_,M,μ,rfl,{ r with slots:=⟨rfl,fun i u x hu hx => ?_⟩,pins:=fun _ _=>rfl }⟩
  cases i with
  | zero=>simp at hu hx; subst hu; subst hx; exact .tuple rfl fun i u x hu=>by simp at hu
  | succ i=>simp at hx
 cases u with
 | true =>
  obtain rfl:x = .pointer (some ⟨b,0,none⟩):=by
   cases hx with
   | ptr h=>rw [hb] at h; cases h; rfl
  refine (qXE b w (by rw [zX hh]; rfl)).mono ?_
  rintro e w' ⟨rfl,rfl⟩
  exact hfin _ rel
 | false =>
  obtain rfl:x = .pointer none:=by
   cases hx with
   | p h=>cases h; rfl
  refine (qUN b w (by rw [zX hh]; rfl) (by simp [World.shape?,hh]) (by simp [World.frozen?,hh])).mono ?_
  rintro e w' ⟨rfl,rfl⟩
  refine hfin _ ?_
  have ht:Turned w (w.setCell ⟨b,0,none⟩ (.pointer (some ⟨b,0,none⟩))) b :=
   ⟨rfl,rfl,rfl,by simp [World.setCell],fun k hk=>RowKit.Below.heap_setCell w ⟨b,0,none⟩ _ k hk⟩
  have:=rel.write (id:=2) (bx := .vars 85 [qUU true,.ms 3]) (by simp [qL,uR]) hb ht (.vars (arr := #[.pointer (some ⟨b,0,none⟩),y]) hb (by simp only [World.setCell,Array.getElem?_modify,if_pos,hh]; simp) rfl (fun i u hu => ?_) (fun i u x hu hx => ?_))
  ·simpa [uR,zV] using this
  ·match i,hu with
   | 0,hu=>simp at hu; subst hu; rfl
   | 1,hu=>exact ho 1 u (by simpa using hu)
   | i+2,hu=>simp at hu
  match i,hu,hx with
  | 0,hu,hx=>simp at hu hx; subst hu; subst hx; exact .ptr hb
  | 1,hu,hx=>simp at hu hx; subst hu; subst hx; exact hy
  | i+2,hu,hx=>simp at hu
theorem qOQ (bs:List UInt8):AX Tryz.prog G 77 [.ptr 2 0] [(2,.vars 85 [.p .nilp,.ms 3]),(3,.row 5 1 (qJ bs))] (.tuple []) [2,3] [(2,.vars 85 [.ptr 2 0,.ms 3]),(3,.row 5 1 (qJ bs))]:=qCV false bs
theorem qUO (bs:List UInt8):AX Tryz.prog G 77 [.ptr 2 0] [(2,.vars 85 [.ptr 2 0,.ms 3]),(3,.row 5 1 (qJ bs))] (.tuple []) [2,3] [(2,.vars 85 [.ptr 2 0,.ms 3]),(3,.row 5 1 (qJ bs))]:=qCV true bs
open Go.Shelf Go.RowKit
section
variable {P:Program} {ρ:Ren}
abbrev qHV (g:Nat) (w w':World):Prop:=Kept (fun k=>k=g∨w.heap.size≤k) w w'
theorem qDI (g:Nat) (w:World):qHV g w w.drew:=⟨rfl,rfl,rfl,Nat.le_refl _,fun _ _=>rfl⟩
theorem qMD (g:Nat) (w:World) (n:Nat):qHV g w (w.drew.freeze ⟨g,0,none⟩ n):=by
 unfold World.freeze
 split
 ·exact qDI g w
 exact ⟨rfl,rfl,rfl,by simp only [Array.size_modify]; exact Nat.le_refl _,fun k hk=>by
  simp only [Array.getElem?_modify]
  rw [if_neg (by omega)]; rfl⟩
theorem qGF (g:Nat) (w:World) (o:Obj):qHV g w (w.alloc o).drew:=⟨rfl,rfl,rfl,by show w.heap.size≤(w.heap.push o).size; simp,fun k hk=>by
 show (w.heap.push o)[k]?=_
 rw [Array.getElem?_push,if_neg (by omega)]⟩
theorem qME (g:Nat) (w:World) (o:Obj):qHV g w (w.drew.alloc o):=qGF g w o
set_option maxHeartbeats 1000000 in
theorem qXI (L : Lays.n169 P ρ) (X : Builder.Extra P ρ) (b g cap : Nat) (p : Value) (cur : Array Value) (l : List UInt8) (w : World) (hbk : w.heap[b]? = some (.cells #[p, .slice (some ⟨g, 0, none⟩) l.length cap] (ρ.t 72) (0, 0)))
  (hg:w.heap[g]?=some (.cells cur (ρ.t 5) (0,0))) (hnc:l.length≤cap) (hcm:cap≤maxLen) (hcs:cur.size=cap) (hcells:∀ (j:Nat) (x:UInt8),l[j]?=some x→cur[j]?=some (Value.int .u8 x.toNat)) (h0:l≠[]) :
  Calls P (ρ.f 169) #[.pointer (some ⟨b,0,none⟩)] w fun e w'=>e = .returned (.string ⟨l.toArray⟩)∧qHV g w w':=by
 have hl0:l.length≠0:=by simpa using h0
 have c1:w.drew.cell? ⟨b,1,none⟩=some (.slice (some ⟨g,0,none⟩) l.length cap):=by
  have:w.drew.heap[b]?=some (.cells #[p,.slice (some ⟨g,0,none⟩) l.length cap] (ρ.t 72) (0,0)):=hbk
  rw [Lib.cell_of_heap this]; rfl
 have hSD:(Builtin.unsafeSliceData_ #[(ρ.t 37)] (ρ.t 127) #[.slice (some ⟨g,0,none⟩) l.length cap]).run P w.drew = .ok (.pointer (some ⟨g,0,none⟩)) w.drew :=
  Lib.run_unsafeSliceData_row _ _ _ _ _ _ (by omega)
 have hUS:(Builtin.unsafeString_ #[(ρ.t 127),(ρ.t 3)] (ρ.t 9) #[.pointer (some ⟨g,0,none⟩),.int .i64 l.length]).run P w.drew = .ok (.string ⟨l.toArray⟩) (w.drew.freeze ⟨g,0,none⟩ l.length):=by
  refine Lib.run_unsafeString_row w.drew (ρ.t 127) (ρ.t 3) (ρ.t 9) (ρ.t 5) L.t127 X.cellsByte g cur.size (by have hg':w.drew.heap[g]?=some (.cells cur (ρ.t 5) (0,0)):=hg; simp [World.shape?,hg']) l h0 (by omega) (by unfold maxLen at hcm; omega) ?_
  intro j x hx
  have hg':w.drew.heap[g]?=some (.cells cur (ρ.t 5) (0,0)):=hg
  rw [jP,Nat.zero_add,Lib.cell_of_heap hg']
  exact hcells j x hx
 have mixed:=L.mixed
 have t72:=L.t72; have a72:=L.a72; have z72:=L.z72; have v72:=L.v72; have u72:=run_underlying L.t72
 have t70:=L.t70; have a70:=L.a70; have z70:=L.z70; have v70:=L.v70; have u70:=run_underlying L.t70
 have t37:=L.t37; have a37:=L.a37; have z37:=L.z37; have v37:=L.v37; have u37:=run_underlying L.t37
 have t127:=L.t127; have a127:=L.a127; have z127:=L.z127; have v127:=L.v127; have u127:=run_underlying L.t127
 have t3:=L.t3; have a3:=L.a3; have z3:=L.z3; have v3:=L.v3; have u3:=run_underlying L.t3
 have t9:=L.t9; have a9:=L.a9; have z9:=L.z9; have v9:=L.v9; have u9:=run_underlying L.t9
 have t5:=X.t5; have a5:=X.a5; have z5:=X.z5; have v5:=X.v5; have u5:=run_underlying X.t5
 go_enter L.f169,Body.n169_ntmps ρ
 go_wp2
 go_region_o
 all_goals (go_wp2; go_ret; exact ⟨rfl,qMD g w _⟩)
set_option maxHeartbeats 2000000 in
theorem qXJ (L : Lays.n169 P ρ) (X : Builder.Extra P ρ) (b : Nat) (p : Value) (w : World) (hbk : w.heap[b]? = some (.cells #[p, .slice none 0 0] (ρ.t 72) (0, 0))) :
  Calls P (ρ.f 169) #[.pointer (some ⟨b,0,none⟩)] w fun e w'=>e = .returned (.string ⟨#[]⟩)∧qHV w.heap.size w w':=by
 have hUS:=Any.unsafeString_none L X
 have c1:w.drew.cell? ⟨b,1,none⟩=some (.slice none 0 0):=by
  have:w.drew.heap[b]?=some (.cells #[p,.slice none 0 0] (ρ.t 72) (0,0)):=hbk
  rw [Lib.cell_of_heap this]; rfl
 have hSD:(Builtin.unsafeSliceData_ #[(ρ.t 37)] (ρ.t 127) #[.slice none 0 0]).run P w.drew = .ok (.pointer none) w.drew:=rfl
 have mixed:=L.mixed
 have t72:=L.t72; have a72:=L.a72; have z72:=L.z72; have v72:=L.v72; have u72:=run_underlying L.t72
 have t70:=L.t70; have a70:=L.a70; have z70:=L.z70; have v70:=L.v70; have u70:=run_underlying L.t70
 have t37:=L.t37; have a37:=L.a37; have z37:=L.z37; have v37:=L.v37; have u37:=run_underlying L.t37
 have t127:=L.t127; have a127:=L.a127; have z127:=L.z127; have v127:=L.v127; have u127:=run_underlying L.t127
 have t3:=L.t3; have a3:=L.a3; have z3:=L.z3; have v3:=L.v3; have u3:=run_underlying L.t3
 have t9:=L.t9; have a9:=L.a9; have z9:=L.z9; have v9:=L.v9; have u9:=run_underlying L.t9
 have t5:=X.t5; have a5:=X.a5; have z5:=X.z5; have v5:=X.v5; have u5:=run_underlying X.t5
 go_enter L.f169,Body.n169_ntmps ρ
 go_wp2
 go_region_o
 all_goals (go_wp2; go_ret; exact ⟨rfl,qDI _ w⟩)
set_option maxHeartbeats 2000000 in
theorem qUS (L : Lays.n169 P ρ) (X : Builder.Extra P ρ) (b g : Nat) (p : Value) (cur : Array Value) (w : World) (hlt : b < w.heap.size) (hbk : w.heap[b]? = some (.cells #[p, .slice (some ⟨g, 0, none⟩) 0 0] (ρ.t 72) (0, 0))) (hg : w.heap[g]? = some (.cells cur (ρ.t 5) (0, 0))) :
  Calls P (ρ.f 169) #[.pointer (some ⟨b,0,none⟩)] w fun e w'=>e = .returned (.string ⟨#[]⟩)∧qHV g w w':=by
 have hUS:=Any.unsafeString_none L X
 have c1:w.drew.cell? ⟨b,1,none⟩=some (.slice (some ⟨g,0,none⟩) 0 0):=by
  have:w.drew.heap[b]?=some (.cells #[p,.slice (some ⟨g,0,none⟩) 0 0] (ρ.t 72) (0,0)):=hbk
  rw [Lib.cell_of_heap this]; rfl
 have hSD:(Builtin.unsafeSliceData_ #[(ρ.t 37)] (ρ.t 127) #[.slice (some ⟨g,0,none⟩) 0 0]).run P w.drew = .ok (.pointer (some ⟨w.drew.heap.size,0,none⟩)) (w.drew.alloc (.view ⟨g,0,none⟩ (ρ.t 5))) :=
  Lib.run_unsafeSliceData_zero w.drew _ _ (ρ.t 5) L.t127 ⟨g,0,none⟩ 0 ((ρ.t 5),cur.size) (by have hg':w.drew.heap[g]?=some (.cells cur (ρ.t 5) (0,0)):=hg; simp [World.shape?,hg'])
 have c2:(w.drew.alloc (.view ⟨g,0,none⟩ (ρ.t 5))).cell? ⟨b,1,none⟩=some (.slice (some ⟨g,0,none⟩) 0 0):=by
  have:(w.drew.alloc (.view ⟨g,0,none⟩ (ρ.t 5))).heap[b]?=_:=(Lib.alloc_old w.drew _ b hlt).trans hbk
  rw [Lib.cell_of_heap this]; rfl
 have c3:(w.alloc (.view ⟨g,0,none⟩ (ρ.t 5))).drew.cell? ⟨b,1,none⟩=some (.slice (some ⟨g,0,none⟩) 0 0):=c2
 have c0:w.cell? ⟨b,1,none⟩=some (.slice (some ⟨g,0,none⟩) 0 0):=c1
 have mixed:=L.mixed
 have t72:=L.t72; have a72:=L.a72; have z72:=L.z72; have v72:=L.v72; have u72:=run_underlying L.t72
 have t70:=L.t70; have a70:=L.a70; have z70:=L.z70; have v70:=L.v70; have u70:=run_underlying L.t70
 have t37:=L.t37; have a37:=L.a37; have z37:=L.z37; have v37:=L.v37; have u37:=run_underlying L.t37
 have t127:=L.t127; have a127:=L.a127; have z127:=L.z127; have v127:=L.v127; have u127:=run_underlying L.t127
 have t3:=L.t3; have a3:=L.a3; have z3:=L.z3; have v3:=L.v3; have u3:=run_underlying L.t3
 have t9:=L.t9; have a9:=L.a9; have z9:=L.z9; have v9:=L.v9; have u9:=run_underlying L.t9
 have t5:=X.t5; have a5:=X.a5; have z5:=X.z5; have v5:=X.v5; have u5:=run_underlying X.t5
 go_enter L.f169,Body.n169_ntmps ρ
 go_wp2
 go_region_o
 all_goals (go_wp2; go_ret; first | exact ⟨rfl,qGF g w _⟩ | exact ⟨rfl,qME g w _⟩)
set_option maxHeartbeats 2000000 in
theorem qUR (L : Lays.n169 P ρ) (X : Builder.Extra P ρ) (b g cap : Nat) (p : Value) (w : World) (hc0 : cap ≠ 0) (hbk : w.heap[b]? = some (.cells #[p, .slice (some ⟨g, 0, none⟩) 0 cap] (ρ.t 72) (0, 0))) :
  Calls P (ρ.f 169) #[.pointer (some ⟨b,0,none⟩)] w fun e w'=>e = .returned (.string ⟨#[]⟩)∧qHV g w w':=by
 have hUS:=Any.unsafeString_none L X
 have c1:w.drew.cell? ⟨b,1,none⟩=some (.slice (some ⟨g,0,none⟩) 0 cap):=by
  have:w.drew.heap[b]?=some (.cells #[p,.slice (some ⟨g,0,none⟩) 0 cap] (ρ.t 72) (0,0)):=hbk
  rw [Lib.cell_of_heap this]; rfl
 have hSD:(Builtin.unsafeSliceData_ #[(ρ.t 37)] (ρ.t 127) #[.slice (some ⟨g,0,none⟩) 0 cap]).run P w.drew = .ok (.pointer (some ⟨g,0,none⟩)) w.drew :=
  Lib.run_unsafeSliceData_row _ _ _ _ _ _ hc0
 clear hc0
 have mixed:=L.mixed
 have t72:=L.t72; have a72:=L.a72; have z72:=L.z72; have v72:=L.v72; have u72:=run_underlying L.t72
 have t70:=L.t70; have a70:=L.a70; have z70:=L.z70; have v70:=L.v70; have u70:=run_underlying L.t70
 have t37:=L.t37; have a37:=L.a37; have z37:=L.z37; have v37:=L.v37; have u37:=run_underlying L.t37
 have t127:=L.t127; have a127:=L.a127; have z127:=L.z127; have v127:=L.v127; have u127:=run_underlying L.t127
 have t3:=L.t3; have a3:=L.a3; have z3:=L.z3; have v3:=L.v3; have u3:=run_underlying L.t3
 have t9:=L.t9; have a9:=L.a9; have z9:=L.z9; have v9:=L.v9; have u9:=run_underlying L.t9
 have t5:=X.t5; have a5:=X.a5; have z5:=X.z5; have v5:=X.v5; have u5:=run_underlying X.t5
 go_enter L.f169,Body.n169_ntmps ρ
 go_wp2
 go_region_o
 all_goals (go_wp2; go_ret; exact ⟨rfl,qDI _ w⟩)
end
theorem uC:Builder.Extra Tryz.prog Tryz.lays169_ren where
 sizeBuilder:=by kernel_rfl
 liesBuilder:=by kernel_rfl
 t5:=Tryz.underlying5
 a5:=Tryz.isAgg5
 z5:=Tryz.sizeOf5
 v5:=Tryz.zeroValue5
 infoByte:=by kernel_rfl
 cellsByte:=by kernel_rfl
 sizeByte:=by kernel_rfl
 neB5:=by decide
theorem qBH (u:Bool) (bs:List UInt8):AX Tryz.prog G 51 [.ptr 2 0] (uR u bs) (.p (.str bs)) [] []:=by
 refine ⟨kN Tryz.func51 (by kernel_rfl) rfl,fun M μ w vs hg rel => ?_⟩
 obtain ⟨l⟩:=vs
 have hsz:l.length=1:=by simpa using rel.slots.1
 match l,hsz with
 | [v],_ =>
 have hv:=rel.slots.2 0 v (.ptr 2 0) rfl rfl
 cases hv with
 | @ptr _ _ b hb =>
 have hbx:=rel.box 2 (.vars 85 [qUU u,.ms 3]) (by simp [uR])
 cases hbx with
 | @vars _ _ b' arr h0 hh hs ho hc =>
 rw [hb] at h0; cases h0
 obtain ⟨x,y,rfl⟩:∃ x y,arr = #[x,y]:=by
  obtain ⟨l⟩:=arr
  match l,hs with
  | [x,y],_=>exact ⟨x,y,rfl⟩
 have hy:=hc 1 y (.ms 3) rfl rfl
 have hblt:b<w.heap.size:=(Array.getElem?_eq_some_iff.1 hh).1
 have hfin : ∀ (g : Nat) (w' : World), (g < w.heap.size → wE μ (uR u bs) g ∧ ∀ o, M g o = none) → bs.length ≤ maxLen → qHV g w w' →
   ∃ v M' μ',(Ending.returned (.string ⟨bs.toArray⟩):Ending) = .returned v∧Rel ⟨w.heap.size,w,M,μ,wE μ (uR u bs)⟩ M' μ' ⟨[.p (.str bs)],[],[],0⟩ #[v] w':=by
  intro g w' hl hm hk
  refine ⟨_,M,μ,rfl, ?_⟩
  have hko:∀ k,k<w.heap.size→k≠g→w'.heap[k]?=w.heap[k]?:=fun k h1 h2=>hk.block k (by omega)
  refine ⟨fun b o v hv => ?_,fun _ _ _ h=>h,fun _ _ _=>rfl,⟨rfl,fun i u x hu hx => ?_⟩,fun _ h=>(by cases h),fun _ _ h=>(by cases h),by simp,fun _ _ _ h=>by simp [qL] at h,fun _ _ h=>by simp [qL] at h,hk.size, ?_⟩
  ·have h1:=rel.mem b o v hv
   have hlt:=xF h1
   exact (World.cell?_of_block (w:=w) (hko b hlt (by rintro rfl; rw [(hl hlt).2 o] at hv; cases hv))).trans h1
  ·cases i with
   | zero=>simp at hu hx; subst hu; subst hx; exact .p (.str (by simp) hm)
   | succ i=>simp at hx
  refine ⟨hk.os,hk.tape,hk.output,hk.size,fun k h => ?_⟩
  have h1:k<w.heap.size:=Nat.not_le.1 fun h'=>h (.inl h')
  exact hko k h1 (by rintro rfl; exact h (.inr (hl h1).1))
 have hrow:=rel.box 3 (.row 5 1 (qJ bs)) (by simp [uR])
 have key:∃ g,(g<w.heap.size→wE μ (uR u bs) g∧∀ o,M g o=none)∧bs.length≤maxLen∧Calls Tryz.prog 51 #[.pointer (some ⟨b,0,none⟩)] w fun e w'=>e = .returned (.string ⟨bs.toArray⟩)∧qHV g w w':=by
  rcases hrow.cells with ⟨he,hn,hval⟩ | ⟨g,cap,cur,hg0,hval,hgh,hcs,hlc,hcm,hone,hro⟩
  ·obtain rfl:bs=[]:=by simpa [qJ] using he
   have hy':y = .slice none 0 0:=by cases hy with | ms h _=>rw [h,hval]
   subst hy'
   exact ⟨w.heap.size,fun h=>absurd h (Nat.lt_irrefl _),by simp,qXJ Tryz.lays169 uC b x w hh⟩
  have hy':y = .slice (some ⟨g,0,none⟩) bs.length cap:=by cases hy with | ms h _=>rw [h,hval]; simp [qJ]
  subst hy'
  have hown:=rel.own 3 g (by simp [qL,uR]) hg0
  refine ⟨g,fun h=>⟨⟨3,by simp [qL,uR],hg0⟩,hown.2.2⟩,by simp [qJ] at hlc; omega, ?_⟩
  by_cases hbs:bs=[]
  ·subst hbs
   by_cases hc0:cap=0
   ·subst hc0; exact qUS Tryz.lays169 uC b g x cur w hblt hh hgh
   exact qUR Tryz.lays169 uC b g cap x w hc0 hh
  refine qXI Tryz.lays169 uC b g cap x cur bs w hh hgh (by simpa [qJ] using hlc) hcm (by simpa using hcs) (fun j z hz => ?_) hbs
  have hjl:=(List.getElem?_eq_some_iff.1 hz).1
  have hj:j<cur.size:=by rw [hcs]; simp [qJ] at hlc; omega
  have:=hro.get j (.int .u8 z.toNat) 0 (.int .u8 z.toNat) cur[j] (by simp [qJ,hz]) rfl (by simp [qJ,List.getElem?_take,hjl,hj])
  rw [Array.getElem?_eq_getElem hj]
  generalize cur[j]=q at this
  cases this
  rfl
 obtain ⟨g,h1,h2,h3⟩:=key
 refine h3.mono ?_
 rintro e w' ⟨rfl,hk⟩
 exact hfin g w' h1 h2 hk
theorem qDV (bs:List UInt8):AX Tryz.prog G 51 [.ptr 2 0] [(2,.vars 85 [.ptr 2 0,.ms 3]),(3,.row 5 1 (qJ bs))] (.p (.str bs)) [] []:=qBH true bs
theorem qOY (bs:List UInt8):AX Tryz.prog G 51 [.ptr 2 0] [(2,.vars 85 [.p .nilp,.ms 3]),(3,.row 5 1 (qJ bs))] (.p (.str bs)) [] []:=qBH false bs
set_option maxHeartbeats 4000000
@[simp] theorem qYW (a s:List UInt8):qJ (a++s)=qJ a++s.map fun b => .int .u8 b.toNat:=by simp [qJ]
theorem qHT (bs:List UInt8) (c:UInt8) (hb:bs.length≤100000000000):AX Tryz.prog G 52 [.ptr 2 0,.p (.int .u8 c.toNat)] [(2,.vars 85 [.p .nilp,.ms 3]),(3,.row 5 1 (qJ bs))] (.dead) [2] [(2,.vars 85 [.ptr 2 0,.ms 3]),(3,.row 5 1 (qJ (bs++[c])))]:=by
 refine AX.introU tok 900 Tryz.func52 (by kernel_rfl) rfl rfl ?_
 simp only [Tryz.f52,qN,List.map_cons,List.map_nil]
 refine rgn [] [[0,1]] ?_
 refine op1 tok ?_
 refine qA (rgn [] [[]] ?_)
 refine op1 tok ?_
 refine qF ?_
 refine qE.stepK [0,1] (qK rfl (qOQ bs) (by simp)) (by conv=>lhs; simp) rfl ?_
 refine qE.nil ?_
 refine rgn [.int .u8 c.toNat] [[],[],[],[],[1,7,11],[],[],[7,14],[],[],[17]] ?_
 iterate 11 refine op1 tok ?_
 refine qA (rgn [] [[]] ?_)
 refine op1 tok ?_
 refine qA ?_
 exact AW.ret qP
theorem qEV (bs s:List UInt8) (hb:bs.length≤100000000000) (hs:s.length≤100000000000):AX Tryz.prog G 50 [.ptr 2 0,.p (.str s)] [(2,.vars 85 [.p .nilp,.ms 3]),(3,.row 5 1 (qJ bs))] (.dead) [2] [(2,.vars 85 [.ptr 2 0,.ms 3]),(3,.row 5 1 (qJ (bs++s)))]:=by
 refine AX.introU tok 900 Tryz.func50 (by kernel_rfl) rfl rfl ?_
 simp only [Tryz.f50,qN,List.map_cons,List.map_nil]
 refine rgn [] [[],[0,1]] ?_
 iterate 2 refine op1 tok ?_
 refine qA (rgn [] [[]] ?_)
 refine op1 tok ?_
 refine qF ?_
 refine qE.stepK [0,1] (qK rfl (qOQ bs) (by simp)) (by conv=>lhs; simp) rfl ?_
 refine qE.nil ?_
 refine rgn [] [[],[],[],[],[1,8,12],[],[],[],[1,14,16],[1]] ?_
 iterate 10 refine op1 tok ?_
 refine qA (rgn [] [[],[],[],[4,5]] ?_)
 iterate 4 refine op1 tok ?_
 refine qA ?_
 exact AW.ret qP
theorem kZ (bs:List UInt8) (c:UInt8) (hb:bs.length≤100000000000):AX Tryz.prog G 52 [.ptr 2 0,.p (.int .u8 c.toNat)] [(2,.vars 85 [.ptr 2 0,.ms 3]),(3,.row 5 1 (qJ bs))] (.dead) [2] [(2,.vars 85 [.ptr 2 0,.ms 3]),(3,.row 5 1 (qJ (bs++[c])))]:=by
 refine AX.introU tok 900 Tryz.func52 (by kernel_rfl) rfl rfl ?_
 simp only [Tryz.f52,qN,List.map_cons,List.map_nil]
 refine rgn [] [[0,1]] ?_
 refine op1 tok ?_
 refine qA (rgn [] [[]] ?_)
 refine op1 tok ?_
 refine qF ?_
 refine qE.stepK [0,1] (qK rfl (qUO bs) (by simp)) (by conv=>lhs; simp) rfl ?_
 refine qE.nil ?_
 refine rgn [.int .u8 c.toNat] [[],[],[],[],[1,7,11],[],[],[7,14],[],[],[17]] ?_
 iterate 11 refine op1 tok ?_
 refine qA (rgn [] [[]] ?_)
 refine op1 tok ?_
 refine qA ?_
 exact AW.ret qP
theorem wV (bs s:List UInt8) (hb:bs.length≤100000000000) (hs:s.length≤100000000000):AX Tryz.prog G 50 [.ptr 2 0,.p (.str s)] [(2,.vars 85 [.ptr 2 0,.ms 3]),(3,.row 5 1 (qJ bs))] (.dead) [2] [(2,.vars 85 [.ptr 2 0,.ms 3]),(3,.row 5 1 (qJ (bs++s)))]:=by
 refine AX.introU tok 900 Tryz.func50 (by kernel_rfl) rfl rfl ?_
 simp only [Tryz.f50,qN,List.map_cons,List.map_nil]
 refine rgn [] [[],[0,1]] ?_
 iterate 2 refine op1 tok ?_
 refine qA (rgn [] [[]] ?_)
 refine op1 tok ?_
 refine qF ?_
 refine qE.stepK [0,1] (qK rfl (qUO bs) (by simp)) (by conv=>lhs; simp) rfl ?_
 refine qE.nil ?_
 refine rgn [] [[],[],[],[],[1,8,12],[],[],[],[1,14,16],[1]] ?_
 iterate 10 refine op1 tok ?_
 refine qA (rgn [] [[],[],[],[4,5]] ?_)
 iterate 4 refine op1 tok ?_
 refine qA ?_
 exact AW.ret qP
@[simp] theorem qYV:qJ []=[]:=rfl
theorem qRT (r:Int) (l:List Int) (h:Lib.encodeRuneZ r=l):qJ (Lib.encodeRune r)=l.map (PD.int .u8):=by
 subst h
 simp only [qJ,Lib.encodeRune,List.map_map]
 apply List.map_congr_left
 intro x hx
 obtain ⟨h0,h1⟩:=Lib.encodeRuneZ_byte r x hx
 simp [Function.comp]
 omega
theorem qKD {k:Nat} {n:Int} (h:0≤n∧n<k):∃ x:Fin k,n=x.val:=⟨⟨n.toNat,by omega⟩,by simp; omega⟩
theorem qXV (n:Int) (h:0≤n):IntKind.u8.wrap n=n % 256:=by simp [IntKind.wrap,IntKind.bits,IntKind.signed]
theorem qWW (n:Int) (h:0≤n∧n<32):IntKind.u8.wrap ↑(192 % 2 ^ IntKind.u8.bits ||| (IntKind.u8.wrap n % 2 ^ IntKind.u8.bits).toNat)=192+n:=by
 obtain ⟨x,rfl⟩:=qKD h; revert x; decide +kernel
theorem qQA (n:Int) (h:0≤n∧n<16):IntKind.u8.wrap ↑(224 % 2 ^ IntKind.u8.bits ||| (IntKind.u8.wrap n % 2 ^ IntKind.u8.bits).toNat)=224+n:=by
 obtain ⟨x,rfl⟩:=qKD h; revert x; decide +kernel
theorem qPZ (n:Int) (h:0≤n∧n<8):IntKind.u8.wrap ↑(240 % 2 ^ IntKind.u8.bits ||| (IntKind.u8.wrap n % 2 ^ IntKind.u8.bits).toNat)=240+n:=by
 obtain ⟨x,rfl⟩:=qKD h; revert x; decide +kernel
theorem qXD:∀ x:Fin 256,IntKind.u8.wrap ↑(128 % 2 ^ IntKind.u8.bits ||| (IntKind.u8.wrap ↑((((x.val:Nat):Int) % 2 ^ IntKind.u8.bits).toNat &&& 63 % 2 ^ IntKind.u8.bits) % 2 ^ IntKind.u8.bits).toNat)=128+((x.val:Nat):Int) % 64:=by decide +kernel
theorem qAJ (n:Int) (h:0≤n):IntKind.u8.wrap ↑(128 % 2 ^ IntKind.u8.bits ||| (IntKind.u8.wrap ↑((IntKind.u8.wrap n % 2 ^ IntKind.u8.bits).toNat &&& 63 % 2 ^ IntKind.u8.bits) % 2 ^ IntKind.u8.bits).toNat)=128+n % 64:=by
 rw [qXV n h]
 obtain ⟨x,hx⟩:=qKD (k:=256) (n:=n % 256) (by omega)
 rw [hx,qXD x,← hx]
 omega
theorem qTD (r:Int):r.fdiv (2 ^ min 6 IntKind.i32.bits)=r / 64:=Int.fdiv_eq_ediv_of_nonneg _ (by decide)
theorem qLL (r:Int):r.fdiv (2 ^ min 12 IntKind.i32.bits)=r / 4096:=Int.fdiv_eq_ediv_of_nonneg _ (by decide)
theorem qLK (r:Int):r.fdiv (2 ^ min 18 IntKind.i32.bits)=r / 262144:=Int.fdiv_eq_ediv_of_nonneg _ (by decide)
theorem qKL (bs:List UInt8) (r:Int) (hb:bs.length≤100000000000) (h0:128≤r) (h1:r≤1114111) (h2:r<55296∨57343<r):AX Tryz.prog G 100 [.ms 3,.p (.int .i32 r)] [(3,.row 5 1 (qJ bs))] (.ms 3) [] [(3,.row 5 1 (qJ bs++qJ (Lib.encodeRune r)))]:=by
 refine AX.introU tok 900 Tryz.func100 (by kernel_rfl) rfl rfl ?_
 simp only [Tryz.f100,qN,List.map_cons,List.map_nil]
 have hw:IntKind.u32.wrap r=r:=by simp [IntKind.wrap,IntKind.bits,IntKind.signed]; omega
 refine rgn [] [[0,1]] ?_
 refine op1 tok ?_
 refine qA (rgn [] [[],[],[0,1,5]] ?_)
 iterate 3 refine op1 tok ?_
 refine qA (AW.block (rgn [] [[],[],[0,1,5,11]] ?_))
 iterate 3 refine op1 tok ?_
 refine qA (cnd ?_ ?_)
 ·intro h11
  try simp at h11
  rw [qRT r _ (Lib.encodeRuneZ_two (by omega) (by omega))]
  refine rgn [.int .u8 (192+r / 64),.int .u8 (128+r % 64)] [[],[],[],[],[1,14,18],[],[],[],[14,18,22],[],[24],[4]] ?_
  iterate 12 refine op1 tok ?_ (hv:=by first | with_reducible exact True.intro | (simp only [qTD,qLL,qLK]; exact ⟨qWW _ (by omega),qAJ _ (by omega)⟩; done) | omega | simp | (simp +contextual; omega))
  refine qA ?_
  exact AW.ret qP
 intro h11
 try simp at h11
 refine AW.seq (rgn [] [[],[],[0,1,5,25]] ?_)
 iterate 3 refine op1 tok ?_
 refine qA (cnd ?_ ?_)
 ·intro h25
  try simp at h25
  refine AW.skip (cnd ?_ ?_)
  ·intro h25
   try simp at h25
   rw [qRT r _ (Lib.encodeRuneZ_three (by omega))]
   refine rgn [.int .u8 (224+r / 4096),.int .u8 (128+r / 64 % 64),.int .u8 (128+r % 64)] [[],[],[],[],[1,34,38],[],[],[],[],[1,34,38,43],[],[],[],[34,38,43,47],[],[49],[4]] ?_
   iterate 17 refine op1 tok ?_ (hv:=by first | with_reducible exact True.intro | (simp only [qTD,qLL,qLK]; exact ⟨qQA _ (by omega),qAJ _ (by omega),qAJ _ (by omega)⟩; done) | omega | simp | (simp +contextual; omega))
   refine qA ?_
   exact AW.ret qP
  intro h25
  try simp at h25
  refine rgn [] [[],[],[],[],[0,1,53,55],[],[0,1,50]] ?_
  iterate 3 refine op1 tok ?_
  iterate 2 refine op2 tok ?_
  iterate 2 refine op1 tok ?_
  refine qA (cnd ?_ ?_)
  ·intro h50
   try simp at h50
   rw [qRT r _ (Lib.encodeRuneZ_four (by omega) (by omega))]
   refine rgn [.int .u8 (240+r / 262144),.int .u8 (128+r / 4096 % 64),.int .u8 (128+r / 64 % 64),.int .u8 (128+r % 64)] [[],[],[],[],[1,57,61],[],[],[],[],[1,57,61,66],[],[],[],[],[1,57,61,66,71],[],[],[],[57,61,66,71,75],[57,76],[],[4]] ?_
   iterate 22 refine op1 tok ?_ (hv:=by first | with_reducible exact True.intro | (simp only [qTD,qLL,qLK]; exact ⟨qPZ _ (by omega),qAJ _ (by omega),qAJ _ (by omega),qAJ _ (by omega)⟩; done) | omega | simp | (simp +contextual; omega))
   refine qA ?_
   exact AW.ret qP
  intro h50
  try simp at h50
  omega
 intro h25
 try simp at h25
 refine rgz [] [[],[],[],[],[],[0,1,5,33],[0,1,5,25]] ?_
 iterate 3 refine op1 tok ?_
 iterate 2 refine op2 tok ?_
 iterate 2 refine op1 tok ?_
 refine qA (cnd ?_ ?_)
 ·intro h25
  try simp at h25
  rw [qRT r _ (Lib.encodeRuneZ_three (by omega))]
  refine rgn [.int .u8 (224+r / 4096),.int .u8 (128+r / 64 % 64),.int .u8 (128+r % 64)] [[],[],[],[],[1,34,38],[],[],[],[],[1,34,38,43],[],[],[],[34,38,43,47],[],[49],[4]] ?_
  iterate 17 refine op1 tok ?_ (hv:=by first | with_reducible exact True.intro | (simp only [qTD,qLL,qLK]; exact ⟨qQA _ (by omega),qAJ _ (by omega),qAJ _ (by omega)⟩; done) | omega | simp | (simp +contextual; omega))
  refine qA ?_
  exact AW.ret qP
 intro h25
 try simp at h25
 refine rgn [] [[],[],[],[],[0,1,53,55],[],[0,1,50]] ?_
 iterate 3 refine op1 tok ?_
 iterate 2 refine op2 tok ?_
 iterate 2 refine op1 tok ?_
 refine qA (cnd ?_ ?_)
 ·intro h50
  try simp at h50
  rw [qRT r _ (Lib.encodeRuneZ_four (by omega) (by omega))]
  refine rgn [.int .u8 (240+r / 262144),.int .u8 (128+r / 4096 % 64),.int .u8 (128+r / 64 % 64),.int .u8 (128+r % 64)] [[],[],[],[],[1,57,61],[],[],[],[],[1,57,61,66],[],[],[],[],[1,57,61,66,71],[],[],[],[57,61,66,71,75],[57,76],[],[4]] ?_
  iterate 22 refine op1 tok ?_ (hv:=by first | with_reducible exact True.intro | (simp only [qTD,qLL,qLK]; exact ⟨qPZ _ (by omega),qAJ _ (by omega),qAJ _ (by omega),qAJ _ (by omega)⟩; done) | omega | simp | (simp +contextual; omega))
  refine qA ?_
  exact AW.ret qP
 intro h50
 try simp at h50
 omega
theorem qBK (bs:List UInt8) (r:Int) (hb:bs.length≤100000000000) (h0:0≤r) (h1:r≤1114111) (h2:r<55296∨57343<r):AX Tryz.prog G 79 [.ms 3,.p (.int .i32 r)] [(3,.row 5 1 (qJ bs))] (.ms 3) [] [(3,.row 5 1 (qJ bs++qJ (Lib.encodeRune r)))]:=by
 refine AX.introU tok 900 Tryz.func79 (by kernel_rfl) rfl rfl ?_
 simp only [Tryz.f79,qN,List.map_cons,List.map_nil]
 have hw:IntKind.u32.wrap r=r:=by simp [IntKind.wrap,IntKind.bits,IntKind.signed]; omega
 have hw8:=qXV r h0
 refine rgn [] [[0,1]] ?_
 refine op1 tok ?_
 refine qA (AW.seq (rgn [] [[],[],[0,1,7]] ?_))
 iterate 3 refine op1 tok ?_
 refine qA (cnd ?_ ?_)
 ·intro h7
  try simp at h7
  rw [qRT r _ (Lib.encodeRuneZ_one (by omega) (by omega))]
  refine rgn [.int .u8 r] [[],[],[],[8,11],[],[4]] ?_
  iterate 6 refine op1 tok ?_ (hv:=by first | with_reducible exact True.intro | ((rw [hw8]; omega); done) | omega | simp | (simp +contextual; omega))
  refine qA ?_
  exact AW.ret qP
 intro h7
 try simp at h7
 refine AW.skip (rgn [] [[],[]] ?_)
 iterate 2 refine op1 tok ?_
 refine qF ?_
 refine qE.stepK [15] (qK rfl (qKL bs r hb (by omega) h1 h2) (by simp)) (by conv=>lhs; simp) rfl ?_
 refine qE.run [[4]] ?_
 refine op1 tok ?_
 refine qA ?_
 exact AW.ret qP
theorem qBI (bs:List UInt8) (r:Int) (hb:bs.length≤100000000000) (h0:0≤r) (h1:r≤1114111) (h2:r<55296∨57343<r):AX Tryz.prog G 53 [.ptr 2 0,.p (.int .i32 r)] [(2,.vars 85 [.p .nilp,.ms 3]),(3,.row 5 1 (qJ bs))] (.dead) [2] [(2,.vars 85 [.ptr 2 0,.ms 3]),(3,.row 5 1 (qJ bs++qJ (Lib.encodeRune r)))]:=by
 refine AX.introU tok 900 Tryz.func53 (by kernel_rfl) rfl rfl ?_
 simp only [Tryz.f53,qN,List.map_cons,List.map_nil]
 have hel:(Lib.encodeRune r).length≤4:=by simp only [Lib.encodeRune,List.length_map]; exact (Lib.encodeRuneZ_length r).2
 refine rgn [] [[],[0,1]] ?_
 iterate 2 refine op1 tok ?_
 refine qA (rgn [] [[]] ?_)
 refine op1 tok ?_
 refine qF ?_
 refine qE.stepK [0,1] (qK rfl (qOQ bs) (by simp)) (by conv=>lhs; simp) rfl ?_
 refine qE.nil ?_
 refine rgn [] [[],[],[],[],[0,1,13],[0,1,6]] ?_
 iterate 6 refine op1 tok ?_
 refine qA (rgn [] [[],[],[],[],[],[0,6,14,18,19]] ?_)
 iterate 6 refine op1 tok ?_
 refine qF ?_
 refine qE.stepK [0,6,14,20] (qK rfl (qBK bs r hb h0 h1 h2) (by simp)) (by conv=>lhs; simp) rfl ?_
 refine qE.run [[],[],[0,6]] ?_
 iterate 3 refine op1 tok ?_
 refine qA (rgn [] [[],[],[],[6,26],[],[],[29],[],[4,5]] ?_)
 iterate 9 refine op1 tok ?_
 refine qA ?_
 exact AW.ret qP
theorem kY (bs:List UInt8) (r:Int) (hb:bs.length≤100000000000) (h0:0≤r) (h1:r≤1114111) (h2:r<55296∨57343<r):AX Tryz.prog G 53 [.ptr 2 0,.p (.int .i32 r)] [(2,.vars 85 [.ptr 2 0,.ms 3]),(3,.row 5 1 (qJ bs))] (.dead) [2] [(2,.vars 85 [.ptr 2 0,.ms 3]),(3,.row 5 1 (qJ bs++qJ (Lib.encodeRune r)))]:=by
 refine AX.introU tok 900 Tryz.func53 (by kernel_rfl) rfl rfl ?_
 simp only [Tryz.f53,qN,List.map_cons,List.map_nil]
 have hel:(Lib.encodeRune r).length≤4:=by simp only [Lib.encodeRune,List.length_map]; exact (Lib.encodeRuneZ_length r).2
 refine rgn [] [[],[0,1]] ?_
 iterate 2 refine op1 tok ?_
 refine qA (rgn [] [[]] ?_)
 refine op1 tok ?_
 refine qF ?_
 refine qE.stepK [0,1] (qK rfl (qUO bs) (by simp)) (by conv=>lhs; simp) rfl ?_
 refine qE.nil ?_
 refine rgn [] [[],[],[],[],[0,1,13],[0,1,6]] ?_
 iterate 6 refine op1 tok ?_
 refine qA (rgn [] [[],[],[],[],[],[0,6,14,18,19]] ?_)
 iterate 6 refine op1 tok ?_
 refine qF ?_
 refine qE.stepK [0,6,14,20] (qK rfl (qBK bs r hb h0 h1 h2) (by simp)) (by conv=>lhs; simp) rfl ?_
 refine qE.run [[],[],[0,6]] ?_
 iterate 3 refine op1 tok ?_
 refine qA (rgn [] [[],[],[],[6,26],[],[],[29],[],[4,5]] ?_)
 iterate 9 refine op1 tok ?_
 refine qA ?_
 exact AW.ret qP
theorem qVG (bs:List UInt8):AX Tryz.prog G 63 [.ptr 2 0] [(2,.vars 85 [.p .nilp,.ms 3]),(3,.row 5 1 (qJ bs))] (.p (.int .i64 bs.length)) [2,3] [(2,.vars 85 [.p .nilp,.ms 3]),(3,.row 5 1 (qJ bs))]:=by
 refine AX.introU tok 900 Tryz.func63 (by kernel_rfl) rfl rfl ?_
 simp only [Tryz.f63,qN,List.map_cons,List.map_nil]
 refine rgn [] [[0]] ?_
 refine op1 tok ?_
 refine qA (rgn [] [[],[],[],[6],[],[2]] ?_)
 iterate 6 refine op1 tok ?_
 refine qA ?_
 exact AW.ret qP
theorem qXT (bs:List UInt8):AX Tryz.prog G 63 [.ptr 2 0] [(2,.vars 85 [.ptr 2 0,.ms 3]),(3,.row 5 1 (qJ bs))] (.p (.int .i64 bs.length)) [2,3] [(2,.vars 85 [.ptr 2 0,.ms 3]),(3,.row 5 1 (qJ bs))]:=by
 refine AX.introU tok 900 Tryz.func63 (by kernel_rfl) rfl rfl ?_
 simp only [Tryz.f63,qN,List.map_cons,List.map_nil]
 refine rgn [] [[0]] ?_
 refine op1 tok ?_
 refine qA (rgn [] [[],[],[],[6],[],[2]] ?_)
 iterate 6 refine op1 tok ?_
 refine qA ?_
 exact AW.ret qP
theorem xR (l:List UInt8):(Lib.decodeL l).1≤1114111:=qCT _ _
theorem qBJ (hG:U8 G) (s:List UInt8) (hs:s≠[]):AFn Tryz.prog G 62 [.str s] (.tup [.int .i32 (Lib.decodeL s).1,.int .i64 (Lib.decodeL s).2]):=by
 refine AFn.of_calls (kN Tryz.func62 (by kernel_rfl) rfl) fun M w vs hg hmem hsz hrd => ?_
 obtain ⟨b,rfl,rfl,hm⟩:=qQL hsz hrd
 refine (Any.utf8_DecodeRuneInString Tryz.lays197 b w (qVU hG hg hmem)).mono ?_
 rintro e w' ⟨rfl,hb⟩
 have h0:b.size≠0:=fun h=>hs (List.eq_nil_of_length_eq_zero (by simpa using h))
 have e:Lib.decodeGo b=Lib.decodeL b.data.toList:=by
  unfold Lib.decodeGo Lib.decodeL
  rw [if_neg h0]
 rw [e]
 have h1:=xR b.data.toList
 have h2:=Lib.decodeL_le b.data.toList hs
 have h3:b.data.toList.length≤maxLen:=by simpa using hm
 refine ⟨_,rfl,.tup rfl fun i u d hu hd => ?_,hb⟩
 match i,hu,hd with
 | 0,hu,hd=>simp at hu hd; subst hu; subst hd; exact .int (by rw [yH]; simp only [wW]; omega) (by rw [yA]; simp only [wX]; omega)
 | 1,hu,hd=>simp at hu hd; subst hu; subst hd; exact .int (by rw [yH]; simp only [wW]; omega) (by rw [yA]; simp only [wX]; unfold maxLen at h3; omega)
 | i+2,hu,hd=>simp at hu
theorem qRV (s:List UInt8) (pos:Nat):jV s pos=Lib.decodeL (s.drop pos):=by
 unfold jV Lib.decodeL
 rw [Lib.decode_at,Lib.decode_at]
 have g:∀ k,(⟨s.toArray⟩:ByteArray).get! (pos+k)=(⟨(s.drop pos).toArray⟩:ByteArray).get! (0+k):=by
  intro k
  show s.toArray[pos+k]! = (s.drop pos).toArray[0+k]!
  simp
 have g0:=g 0
 have g1:=g 1
 have g2:=g 2
 have g3:=g 3
 simp only [Nat.add_zero,Nat.zero_add] at g0 g1 g2 g3
 have hsz:(⟨s.toArray⟩:ByteArray).size-pos=(⟨(s.drop pos).toArray⟩:ByteArray).size-0:=by simp [ByteArray.size]
 rw [hsz,g0,g1,g2,g3]
def qC (r:Nat):List UInt8 :=
 if r=34∨r=92 then 92::Lib.encodeRune r else if r=10 then [92,110] else if r=13 then [92,114] else if r=9 then [92,116]
 else if 32≤r∧r≠127 then Lib.encodeRune r else [92,117,48,48,qET (r / 16),qET (r % 16)]
theorem qBZ (l:List UInt8):(Lib.decodeL l).1<55296∨57343<(Lib.decodeL l).1:=by
 rw [qAI l]
 unfold Lib.decodeN
 have:=(l.getD 0 0).toNat_lt
 repeat' split
 all_goals simp only
 all_goals omega
theorem zAW (b:UInt8) (h:b.toNat<128):qC b.toNat=qb b:=by
 have henc:=qTJ h
 have key:∀ k:Fin 128,(k.val=34∨k.val=92)=(UInt8.ofNat k.val=34∨UInt8.ofNat k.val=92)∧(k.val=10)=(UInt8.ofNat k.val=10)∧(k.val=13)=(UInt8.ofNat k.val=13)∧(k.val=9)=(UInt8.ofNat k.val=9)∧(¬ (32≤k.val∧k.val≠127))=(UInt8.ofNat k.val<32∨UInt8.ofNat k.val=127):=by decide +kernel
 have k:=key ⟨b.toNat,h⟩
 simp only [UInt8.ofNat_toNat] at k
 obtain ⟨k1,k2,k3,k4,k5⟩:=k
 unfold qC qb
 rw [henc]
 simp only [k1,k2,k3,k4,← k5]
 split
 ·rfl
 split
 ·rfl
 split
 ·rfl
 split
 ·rfl
 split
 ·rfl
 rfl
theorem qYI (r:Nat) (h:128≤r):qC r=Lib.encodeRune r:=by
 unfold qC
 rw [if_neg (by omega),if_neg (by omega),if_neg (by omega),if_neg (by omega),if_pos (by omega)]
theorem qNV {l:List UInt8} (hne:l≠[]) (hv:Lib.validD l=true):uI l=qC (Lib.decodeL l).1++uI (l.drop (Lib.decodeL l).2)∧Lib.validD (l.drop (Lib.decodeL l).2)=true:=by
 obtain ⟨b,t,rfl⟩:∃ b t,l=b::t:=by cases l with
  | nil=>exact absurd rfl hne
  | cons b t=>exact ⟨b,t,rfl⟩
 by_cases hb:b.toNat<128
 ·rw [qOO hb,zAW b hb]
  rw [Lib.validD_cons b t hb] at hv
  exact ⟨rfl,hv⟩
 rw [Lib.validD_step _ hne] at hv
 split at hv
 ·cases hv
 rename_i hok
 obtain ⟨h1,h2⟩:=qSB (b::t) hne hok (by simpa using by omega)
 have henc:=Lib.encode_decode (b::t) hne hok
 refine ⟨?_,hv⟩
 rw [qYI _ h2,henc]
 conv=>lhs; rw [← List.take_append_drop (Lib.decodeL (b::t)).2 (b::t)]
 rw [qJO,qRA h1]
theorem qYH (r:Nat):(qC r).length≤6:=by
 have:=(Lib.encodeRuneZ_length r).2
 unfold qC
 have h:(Lib.encodeRune r).length≤4:=by simpa only [Lib.encodeRune,List.length_map] using this
 repeat' split
 all_goals simp <;> omega
theorem zBA:∀ k:Fin 16,([48,49,50,51,52,53,54,55,56,57,97,98,99,100,101,102]:List UInt8)[k.val]?=some (qET k.val):=by decide +kernel
theorem zBG:∀ k:Fin 128,IntKind.i32.wrap ↑(k.val % 2 ^ IntKind.i32.bits &&& 15 % 2 ^ IntKind.i32.bits)=((k.val % 16:Nat):Int):=by decide +kernel
theorem zCQ (r:Nat):(r:Int).fdiv (2 ^ min 4 IntKind.i32.bits)=((r / 16:Nat):Int):=(Int.fdiv_eq_ediv_of_nonneg _ (by decide)).trans (by show (r:Int) / 16=_; omega)
theorem qNE (s:List UInt8) (hv:Lib.validD s=true) (hs:s.length≤1000000000):AFn Tryz.prog G 26 [.str s] (.str (yT s)):=by
 refine AFn.introU tok Tryz.func26 (by kernel_rfl) rfl rfl ?_
 simp only [Tryz.f26,qN,List.map_cons,List.map_nil]
 refine rgn [] [[0]] ?_
 refine op1 tok ?_
 refine qA (rgn [] [[]] ?_)
 refine op1 tok ?_
 refine qA ?_
 refine AW.renE 3 2 (by simp) (by conv=>lhs; simp) ?_
 refine AW.beginBox 2 3 1 5 1 (by simp; exact ⟨rfl,rfl⟩) (by simp) (by simp) (by conv=>lhs; simp) ?_
 refine AW.seqRegionO [] ?_
 refine qE.stepK [0,3] (qK rfl (qHT [] 34 (by simp)) (by simp)) (by conv=>lhs; simp) rfl ?_
 refine qE.nil ?_
 refine AW.seq (rgn [] [[],[3,8]] ?_)
 iterate 2 refine op1 tok ?_
 refine qA (AW.block ?_)
 refine AW.loop (α:=Nat × List UInt8) (fun a=>a.1≤s.length∧Lib.validD (s.drop a.1)=true∧yT s=a.2++(uI (s.drop a.1)++[34])∧a.2.length≤6 * a.1+1) (fun a=>⟨zO 47 [(3,.ptr 2 0),(8,.it 8)],[],[(2,.vars 85 [.ptr 2 0,.ms 3]),(3,.row 5 1 (qJ a.2)),(8,.iter s a.1)],0⟩) (fun a=>s.length-a.1) ((0,[34])) ⟨by simp,by simpa using hv,by simp [yT],by simp⟩ ⟨qD (by simp),rfl,by simp,by simp⟩ ?_
 rintro ⟨pos,out⟩ ⟨hp,hvp,hq,hol⟩
 simp only at hp hvp hq hol
 by_cases hs4:pos<s.length
 ·
  refine rgn [.bool true] [[],[]] ?_
  iterate 2 refine oq1 tok hs4 ?_
  refine qA (AW.seq (cnd ?_ ?_))
  ·intro h10
   try simp at h10
   have hne:s.drop pos≠[]:=by intro e; have:=congrArg List.length e; simp at this; omega
   obtain ⟨hst,hvn⟩:=qNV hne hvp
   have hok:=qBZ (s.drop pos)
   have hmx:=xR (s.drop pos)
   have hwl:=Lib.decodeL_le (s.drop pos) hne
   rw [← qRV] at hst hvn hok hmx hwl
   rw [List.length_drop] at hwl
   rw [List.drop_drop] at hst hvn
   have hdp:=qCU hs4
   generalize jV s pos=p at *
   obtain ⟨r,w⟩:=p
   simp only at *
   have hlen:=qYH r
   have hnext:yT s=out++qC r++(uI (s.drop (pos+w))++[34]):=by rw [hq,hst]; simp
   refine AW.skip (AW.block (rgn [] [[],[3,5,8]] ?_))
   iterate 2 refine op1 tok ?_
   refine qA (rgn [] [[]] ?_)
   refine op1 tok ?_
   refine qA (AW.block (AW.seq (rgn [] [[],[3,5,8,12,30]] ?_)))
   iterate 2 refine op1 tok ?_
   refine qA (cnd ?_ ?_)
   ·intro h30
    try simp at h30
    refine AW.skip (cnd ?_ ?_)
    ·intro h30
     try simp at h30
     refine AW.seqRegionO [] ?_
     refine qE.stepK [3,5,8] (qK rfl (kZ out 92 (by omega)) (by simp)) (by conv=>lhs; simp) rfl ?_
     refine qE.nil ?_
     have hqc:qC r=92::Lib.encodeRune r:=by unfold qC; rw [if_pos (by omega)]
     refine rgz [] [[]] ?_
     refine op1 tok ?_
     refine qF ?_
     refine qE.stepK [3,8] (qK rfl (kY (out++[92]) r (by simp; omega) (by omega) (by omega) (by omega)) (by simp)) (by conv=>lhs; simp) rfl ?_
     refine qE.nil ?_
     exact ⟨(pos+w,out++qC r),⟨by simp only []; omega,hvn,hnext,by simp; omega⟩,by simp only []; omega,qD (by simp [hqc,qJ]),rfl,by simp [hqc,qJ],by simp [hqc,qJ]⟩
    intro h30
    try simp at h30
    omega
   intro h30
   try simp at h30
   refine rgz [] [[],[3,5,8,12,30]] ?_
   iterate 2 refine op1 tok ?_
   refine qA (cnd ?_ ?_)
   ·intro h30
    try simp at h30
    refine AW.seqRegionO [] ?_
    refine qE.stepK [3,5,8] (qK rfl (kZ out 92 (by omega)) (by simp)) (by conv=>lhs; simp) rfl ?_
    refine qE.nil ?_
    have hqc:qC r=92::Lib.encodeRune r:=by unfold qC; rw [if_pos (by omega)]
    refine rgz [] [[]] ?_
    refine op1 tok ?_
    refine qF ?_
    refine qE.stepK [3,8] (qK rfl (kY (out++[92]) r (by simp; omega) (by omega) (by omega) (by omega)) (by simp)) (by conv=>lhs; simp) rfl ?_
    refine qE.nil ?_
    exact ⟨(pos+w,out++qC r),⟨by simp only []; omega,hvn,hnext,by simp; omega⟩,by simp only []; omega,qD (by simp [hqc,qJ]),rfl,by simp [hqc,qJ],by simp [hqc,qJ]⟩
   intro h30
   try simp at h30
   refine rgn [] [[],[3,5,8,12,36]] ?_
   iterate 2 refine op1 tok ?_
   refine qA (cnd ?_ ?_)
   ·intro h36
    try simp at h36
    have hqc:qC r=[92,110]:=by unfold qC; rw [if_neg (by omega),if_pos (by omega)]
    refine AW.regionO [] ?_
    refine qE.stepK [3,8] (qK rfl (wV out [92,110] (by omega) (by simp)) (by simp)) (by conv=>lhs; simp) rfl ?_
    refine qE.nil ?_
    exact ⟨(pos+w,out++qC r),⟨by simp only []; omega,hvn,hnext,by simp; omega⟩,by simp only []; omega,qD (by simp [hqc,qJ]),rfl,by simp [hqc,qJ],by simp [hqc,qJ]⟩
   intro h36
   try simp at h36
   refine rgn [] [[],[3,5,8,12,39]] ?_
   iterate 2 refine op1 tok ?_
   refine qA (cnd ?_ ?_)
   ·intro h39
    try simp at h39
    have hqc:qC r=[92,114]:=by unfold qC; rw [if_neg (by omega),if_neg (by omega),if_pos (by omega)]
    refine AW.regionO [] ?_
    refine qE.stepK [3,8] (qK rfl (wV out [92,114] (by omega) (by simp)) (by simp)) (by conv=>lhs; simp) rfl ?_
    refine qE.nil ?_
    exact ⟨(pos+w,out++qC r),⟨by simp only []; omega,hvn,hnext,by simp; omega⟩,by simp only []; omega,qD (by simp [hqc,qJ]),rfl,by simp [hqc,qJ],by simp [hqc,qJ]⟩
   intro h39
   try simp at h39
   refine rgn [] [[],[3,5,8,42]] ?_
   iterate 2 refine op1 tok ?_
   refine qA (cnd ?_ ?_)
   ·intro h42
    try simp at h42
    have hqc:qC r=[92,116]:=by unfold qC; rw [if_neg (by omega),if_neg (by omega),if_neg (by omega),if_pos (by omega)]
    refine AW.regionO [] ?_
    refine qE.stepK [3,8] (qK rfl (wV out [92,116] (by omega) (by simp)) (by simp)) (by conv=>lhs; simp) rfl ?_
    refine qE.nil ?_
    exact ⟨(pos+w,out++qC r),⟨by simp only []; omega,hvn,hnext,by simp; omega⟩,by simp only []; omega,qD (by simp [hqc,qJ]),rfl,by simp [hqc,qJ],by simp [hqc,qJ]⟩
   intro h42
   try simp at h42
   refine AW.seq (rgn [] [[],[],[],[],[],[3,5,8,18]] ?_)
   iterate 3 refine op1 tok ?_
   iterate 2 refine op2 tok ?_
   refine op1 tok ?_
   refine qA (cnd ?_ ?_)
   ·intro h18
    try simp at h18
    have hqc:qC r=Lib.encodeRune r:=by unfold qC; rw [if_neg (by omega),if_neg (by omega),if_neg (by omega),if_neg (by omega),if_pos (by omega)]
    refine rgn [] [[]] ?_
    refine op1 tok ?_
    refine qF ?_
    refine qE.stepK [3,8] (qK rfl (kY out r (by omega) (by omega) (by omega) (by omega)) (by simp)) (by conv=>lhs; simp) rfl ?_
    refine qE.nil ?_
    refine AW.exit ?_
    simp
    exact ⟨pos+w,out++qC r,⟨by omega,hvn,by simpa using hnext,by simp; omega⟩,by omega,qD (by simp [hqc,qJ]),rfl,by simp [hqc,qJ],by simp [hqc,qJ]⟩
   intro h18
   try simp at h18
   refine AW.skip ?_
   have hqc:qC r=[92,117,48,48,qET (r / 16),qET (r % 16)]:=by unfold qC; rw [if_neg (by omega),if_neg (by omega),if_neg (by omega),if_neg (by omega),if_neg (by omega)]
   refine AW.seqRegionO [] ?_
   refine qE.stepK [3,5,8] (qK rfl (wV out [92,117,48,48] (by omega) (by simp)) (by simp)) (by conv=>lhs; simp) rfl ?_
   refine qE.nil ?_
   refine rgn [.int .u8 (qET (r / 16)).toNat] [[],[],[]] ?_
   iterate 3 refine op1 tok ?_ (hv:=by first | with_reducible exact True.intro | (rw [zCQ]; exact ⟨by omega,_,zBA ⟨r / 16,by omega⟩,rfl⟩; done) | omega | simp | (simp +contextual; omega))
   refine qF ?_
   refine qE.stepK [3,5,8] (qK rfl (kZ (out++[92,117,48,48]) (qET (r / 16)) (by simp; omega)) (by simp)) (by conv=>lhs; simp) rfl ?_
   refine qE.nil ?_
   refine rgz [.int .u8 (qET (r % 16)).toNat] [[],[],[]] ?_
   iterate 3 refine op1 tok ?_ (hv:=by first | with_reducible exact True.intro | (rw [zBG ⟨r,by omega⟩]; exact ⟨by omega,_,zBA ⟨r % 16,by omega⟩,rfl⟩; done) | omega | simp | (simp +contextual; omega))
   refine qF ?_
   refine qE.stepK [3,8] (qK rfl (kZ (out++[92,117,48,48,qET (r / 16)]) (qET (r % 16)) (by simp; omega)) (by simp)) (by conv=>lhs; simp) rfl ?_
   refine qE.nil ?_
   exact ⟨(pos+w,out++qC r),⟨by simp only []; omega,hvn,hnext,by simp; omega⟩,by simp only []; omega,qD (by simp [hqc,qJ]),rfl,by simp [hqc,qJ],by simp [hqc,qJ]⟩
  intro h10
  try simp at h10
 ·
  refine rgn [.bool false] [[],[]] ?_
  iterate 2 refine oq1 tok hs4 ?_
  refine qA (AW.seq (cnd ?_ ?_))
  ·intro h10
   try simp at h10
  intro h10
  try simp at h10
  refine AW.exit ?_
  simp
  obtain rfl:pos=s.length:=by omega
  simp only [List.drop_length,uI,List.flatMap_nil,List.nil_append] at hq
  refine AW.seqRegionO [] ?_
  refine qE.stepK [3] (qK rfl (kZ out 34 (by omega)) (by simp)) (by conv=>lhs; simp) rfl ?_
  refine qE.nil ?_
  refine AW.seqRegionO [] ?_
  refine qE.stepK [46] (qK rfl (qDV (out++[34])) (by simp)) (by conv=>lhs; simp) rfl ?_
  refine qE.run [[2]] ?_
  refine op1 tok ?_
  refine qA ?_
  exact AW.ret (qR (k:=by simp [hq]))
def upC (c:UInt8):UInt8:=if 65≤c∧c≤70 then c+32 else c
def qRR:List UInt8:=[48,49,50,51,52,53,54,55,56,57,97,98,99,100,101,102]
theorem qWY:∀ k:Fin 256,Lib.indexByte qRR (upC (UInt8.ofNat k.val))=match qKA (UInt8.ofNat k.val) with | none => -1 | some n=>(n:Int):=by decide +kernel
theorem qTW (c:UInt8):Lib.indexByte qRR (upC c)=match qKA c with | none => -1 | some n=>(n:Int):=by
 have:=qWY ⟨c.toNat,c.toNat_lt⟩
 simpa using this
theorem qQF {c:UInt8} {n:Nat} (h:qKA c=some n):n<16:=by
 unfold qKA at h
 have h0:=c.toNat_lt
 split at h
 ·rename_i h1; cases h; rw [UInt8.le_iff_toNat_le,UInt8.le_iff_toNat_le] at h1; simp at h1; omega
 split at h
 ·rename_i h1; cases h; rw [UInt8.le_iff_toNat_le,UInt8.le_iff_toNat_le] at h1; simp at h1; omega
 split at h
 ·rename_i h1; cases h; rw [UInt8.le_iff_toNat_le,UInt8.le_iff_toNat_le] at h1; simp at h1; omega
 cases h
theorem qSN {c:UInt8} (h:65≤(c.toNat:Int)∧(c.toNat:Int)≤70):IntKind.u8.wrap ((c.toNat:Int)+32)=((upC c).toNat:Int):=by
 have key:∀ k:Fin 256,65≤k.val∧k.val≤70→IntKind.u8.wrap ((k.val:Int)+32)=((upC (UInt8.ofNat k.val)).toNat:Int):=by decide +kernel
 have:=key ⟨c.toNat,c.toNat_lt⟩ (by simp only []; omega)
 simpa using this
theorem qSO {c:UInt8} (h:¬ (65≤(c.toNat:Int)∧(c.toNat:Int)≤70)):upC c=c:=by
 unfold upC
 rw [if_neg]
 rw [UInt8.le_iff_toNat_le,UInt8.le_iff_toNat_le]
 simp; omega
theorem qNY {x k:Nat} (hx:x<4096) (hk:k<16):IntKind.i32.wrap ↑((IntKind.i32.wrap (↑x * 2 ^ min 4 IntKind.i32.bits) % 2 ^ IntKind.i32.bits).toNat ||| (IntKind.i32.wrap ↑k % 2 ^ IntKind.i32.bits).toNat)=((16 * x+k:Nat):Int):=by
 have hw:∀ n:Nat,n<70000→IntKind.i32.wrap (n:Int)=n:=fun n h=>by simp [IntKind.wrap,IntKind.bits,IntKind.signed]; omega
 have e1:(x:Int) * 2 ^ min 4 IntKind.i32.bits=((16 * x:Nat):Int):=by show (x:Int) * 16=_; omega
 have e2:∀ n:Nat,n<70000→(((n:Int)) % 2 ^ IntKind.i32.bits).toNat=n:=fun n h=>by show ((n:Int) % 4294967296).toNat=n; omega
 rw [e1,hw (16 * x) (by omega),hw k (by omega),e2 (16 * x) (by omega),e2 k (by omega)]
 have:16 * x ||| k=16 * x+k:=by
  have:=Nat.shiftLeft_add_eq_or_of_lt (i:=4) (b:=k) hk x
  rw [Nat.shiftLeft_eq] at this
  rw [show 16 * x=x * 2 ^ 4 by omega]
  exact this.symm
 rw [this,hw (16 * x+k) (by omega)]
theorem qPH (s:List UInt8):AFn Tryz.prog G 86 [.str s] (.tup [.int .i32 ((yJ s).getD 0:Nat),.bool (yJ s).isSome]):=by
 refine AFn.introU tok Tryz.func86 (by kernel_rfl) rfl rfl ?_
 simp only [Tryz.f86,qN,List.map_cons,List.map_nil]
 have hw32:∀ n:Int,0≤n→n≤1000000→IntKind.i32.wrap n=n:=fun n h1 h2=>by simp [IntKind.wrap,IntKind.bits,IntKind.signed]; omega
 refine rgn [] [[],[0]] ?_
 iterate 2 refine op1 tok ?_
 refine qA (AW.seq (rgn [] [[],[],[],[],[],[0,11,13],[],[0,15]] ?_))
 iterate 4 refine op1 tok ?_
 iterate 3 refine op2 tok ?_
 refine op1 tok ?_
 refine qA (cnd ?_ ?_)
 ·intro h15
  try simp at h15
  have hu:yJ s=none:=by
   unfold yJ; rw [if_pos (h15.imp (fun h=>by omega) id)]
  refine rgn [] [[],[]] ?_
  iterate 2 refine op1 tok ?_
  refine qA ?_
  exact AW.ret (qR (k:=by simp [hu]))
 intro h15
 try simp at h15
 have hu:yJ s=qES ((s.drop 2).take 4) 0:=by
  unfold yJ; rw [if_neg (fun h=>h.elim (fun h=>by omega) (fun h=>h h15.2))]
 rw [hu]
 have htl:(s.take 6).drop 2=(s.drop 2).take 4:=by rw [List.drop_take]
 have hlen:((s.drop 2).take 4).length=4:=by simp; omega
 refine AW.skip (rgn [] [[]] ?_)
 refine op1 tok ?_
 refine qA (AW.seq (rgn [] [[],[],[],[],[4,18,19,20]] ?_))
 iterate 5 refine op1 tok ?_ (hv:=by first | with_reducible exact True.intro | (omega; done) | omega | simp | (simp +contextual; omega))
 refine qA (AW.block ?_)
 rw [htl]; generalize (s.drop 2).take 4=tl at *
 refine AW.loop (α:=Nat × Nat) (fun a=>a.1≤4∧qES (tl.drop a.1) a.2=qES tl 0∧a.2<16 ^ a.1) (fun a=>⟨zO 43 [(4,.p (.int .i32 a.2)),(18,.p (.sl 1 (qJ tl))),(19,.p (.int .i64 4)),(20,.p (.int .i64 a.1))],[],[],0⟩) (fun a=>4-a.1) ((0,0)) ⟨by omega,rfl,by decide⟩ ⟨qD (by simp; omega),rfl,by simp,by simp⟩ ?_
 rintro ⟨i,x⟩ ⟨hi,hx,hxl⟩
 simp only at hi hx hxl
 have hix:i<4→tl[i]?=some (tl.getD i 0):=fun h=>by simp [List.getD_eq_getElem?_getD,show i<tl.length by omega]
 refine rgn [] [[]] ?_
 refine op1 tok ?_
 refine qA (AW.seq (cnd ?_ ?_))
 ·intro h21
  try simp at h21
  have hxl2:x<4096:=Nat.lt_of_lt_of_le hxl (Nat.pow_le_pow_right (by omega) (show i≤3 by omega))
  have hc:=hix (by omega)
  generalize tl.getD i 0=c at *
  have hcl:=c.toNat_lt
  have hdr:tl.drop i=c::tl.drop (i+1):=by
   rw [List.drop_eq_getElem_cons (by omega)]; congr 1
   have:=List.getElem?_eq_getElem (l:=tl) (i:=i) (by omega)
   rw [hc] at this; exact (Option.some.inj this).symm
  have hstep:qES tl 0=(match qKA c with | none=>none | some k=>qES (tl.drop (i+1)) (16 * x+k)):=by rw [← hx,hdr]; rfl
  have hi2:=qTW c
  have hIB:AFn Tryz.prog G 31 [.str qRR,.int .u8 (upC c).toNat] (.int .i64 (Lib.indexByte qRR (upC c))):=by
   have:=jW (G:=G) qRR ((upC c).toNat)
   simpa using this
  refine AW.skip (AW.seq (AW.block (rgn [.int .u8 c.toNat] [[],[],[4,6,18,19,20]] ?_)))
  iterate 3 refine op1 tok ?_ (hv:=by first | with_reducible exact True.intro | (simp [qJ,hc]; done) | omega | simp | (simp +contextual; omega))
  refine qA ?_
  refine AW.join (α:=Unit) (fun _=>True) (fun a=>⟨zO 43 [(4,.p (.int .i32 x)),(6,.p (.int .u8 (upC c).toNat)),(18,.p (.sl 1 (qJ tl))),(19,.p (.int .i64 4)),(20,.p (.int .i64 i))],[],[],0⟩) ?_ ?_
  ·
   refine rgn [] [[],[],[],[],[],[4,6,18,19,20,29]] ?_
   iterate 3 refine op1 tok ?_
   iterate 2 refine op2 tok ?_
   refine op1 tok ?_
   refine qA (cnd ?_ ?_)
   ·intro h29
    try simp at h29
    refine rgz [] [[],[],[4,6,18,19,20]] ?_
    iterate 3 refine op1 tok ?_
    refine qA ?_
    exact ⟨(),trivial,qD (by simp [qSN h29]),rfl,by simp [qSN h29],by simp [qSN h29]⟩
   intro h29
   try simp at h29
   refine AW.skip ?_
   exact ⟨(),trivial,qD (by simp [qSO (c:=c) (by omega)]),rfl,by simp [qSO (c:=c) (by omega)],by simp [qSO (c:=c) (by omega)]⟩
  ·
   rintro a hI
   refine rgn [.nilp,.int .i64 (Lib.indexByte qRR (upC c))] [[],[],[4,7,18,19,20]] ?_
   iterate 3 refine oq1 tok hIB ?_
   refine qA (AW.seq (rgn [] [[],[4,7,18,19,20,35]] ?_))
   iterate 2 refine op1 tok ?_
   refine qA (cnd ?_ ?_)
   ·intro h35
    try simp at h35
    have hn:qES tl 0=none:=by
     rw [hstep]
     cases hk:qKA c with
     | none=>rfl
     | some k=>rw [hk] at hi2; simp only at hi2; omega
    refine rgn [] [[],[]] ?_
    iterate 2 refine op1 tok ?_
    refine qA ?_
    exact AW.ret (qR (k:=by simp [hn]))
   intro h35
   try simp at h35
   obtain ⟨k,hk⟩:∃ k,qKA c=some k:=by
    cases hk:qKA c with
    | none=>rw [hk] at hi2; simp only at hi2; omega
    | some k=>exact ⟨k,rfl⟩
   have hk16:=qQF hk
   rw [hk] at hi2 hstep
   simp only at hi2 hstep
   rw [hi2]
   refine AW.skip (rgz [] [[],[],[],[18,19,20,37,39],[],[4,18,19,20]] ?_)
   iterate 6 refine op1 tok ?_
   refine qA (rgz [] [[],[4,18,19,20]] ?_)
   iterate 2 refine op1 tok ?_
   refine qA ?_
   exact ⟨(i+1,16 * x+k),⟨by simp only []; omega,hstep.symm,by simp only []; rw [Nat.pow_succ]; omega⟩,by simp only []; omega,qD (by simp [qNY hxl2 hk16]),rfl,by simp [qNY hxl2 hk16],by simp [qNY hxl2 hk16]⟩
 intro h21
 try simp at h21
 obtain rfl:i=4:=by omega
 have hfin:qES tl 0=some x:=by rw [← hx,List.drop_of_length_le (by omega)]; rfl
 refine AW.exit ?_
 simp
 refine rgn [] [[],[],[2,3]] ?_
 iterate 3 refine op1 tok ?_
 refine qA ?_
 exact AW.ret (qR (k:=by simp [hfin]))
def qEU:List UInt8:=[34,92,47,98,102,110,114,116]
def zBC:List UInt8:=[34,92,47,8,12,10,13,9]
theorem qXA:∀ k:Fin 256,if (qDQ (UInt8.ofNat k.val)).isSome=true then 0≤Lib.indexByte qEU (UInt8.ofNat k.val)∧(Lib.indexByte qEU (UInt8.ofNat k.val)).toNat<8∧zBC[(Lib.indexByte qEU (UInt8.ofNat k.val)).toNat]?=some (UInt8.ofNat ((qDQ (UInt8.ofNat k.val)).getD 0))∧(qDQ (UInt8.ofNat k.val)).getD 0<256 else Lib.indexByte qEU (UInt8.ofNat k.val) = -1:=by decide +kernel
theorem qUG (c:UInt8):if (qDQ c).isSome=true then 0≤Lib.indexByte qEU c∧(Lib.indexByte qEU c).toNat<8∧zBC[(Lib.indexByte qEU c).toNat]?=some (UInt8.ofNat ((qDQ c).getD 0))∧(qDQ c).getD 0<256 else Lib.indexByte qEU c = -1:=by
 have:=qXA ⟨c.toNat,c.toNat_lt⟩
 simpa only [UInt8.ofNat_toNat] using this
theorem qQG:∀ (l:List UInt8) (x n:Nat),qES l x=some n→n<(x+1) * 16 ^ l.length
 | [],x,n,h=>by simp [qES] at h; subst h; simp
 | c::l,x,n,h=>by
  simp only [qES] at h
  split at h
  ·cases h
  rename_i k hk
  have h1:=qQG l _ n h
  have h2:=qQF hk
  rw [List.length_cons,Nat.pow_succ]
  calc n<(16 * x+k+1) * 16 ^ l.length:=h1
   _≤(16 * (x+1)) * 16 ^ l.length:=Nat.mul_le_mul_right _ (by omega)
   _=(x+1) * (16 ^ l.length * 16):=by rw [Nat.mul_comm 16,Nat.mul_assoc,Nat.mul_comm 16]
theorem qFF (s:List UInt8):(yJ s).getD 0<65536:=by
 cases h:yJ s with
 | none=>simp
 | some n =>
  unfold yJ at h
  split at h
  ·cases h
  have h1:=qQG _ _ _ h
  have h2:((s.drop 2).take 4).length≤4:=by simp; omega
  have h3:16 ^ ((s.drop 2).take 4).length≤16 ^ 4:=Nat.pow_le_pow_right (by omega) h2
  simp only [Option.getD_some]; omega
theorem qXW (r:Nat):(r:Int).fdiv (2 ^ min 10 IntKind.i32.bits)=((r / 1024:Nat):Int):=(Int.fdiv_eq_ediv_of_nonneg _ (by decide)).trans (by show (r:Int) / 1024=_; omega)
theorem qLN (x:Nat):((x:Int).fdiv (2 ^ min 10 IntKind.i32.bits)=54)=(x / 1024=54):=by rw [qXW]; exact propext (by omega)
theorem qLM (x:Nat):((x:Int).fdiv (2 ^ min 10 IntKind.i32.bits)=55)=(x / 1024=55):=by rw [qXW]; exact propext (by omega)
theorem qQM {x:Nat} (h:x<65536):IntKind.i32.wrap ↑(x % 2 ^ IntKind.i32.bits &&& 1023 % 2 ^ IntKind.i32.bits)=((x % 1024:Nat):Int):=by
 have e1:x % 2 ^ IntKind.i32.bits=x:=Nat.mod_eq_of_lt (by show x<4294967296; omega)
 have e2:1023 % 2 ^ IntKind.i32.bits=2 ^ 10-1:=rfl
 rw [e1,e2,Nat.and_two_pow_sub_one_eq_mod]
 simp [IntKind.wrap,IntKind.bits,IntKind.signed]; omega
theorem zAS (x:Nat):IntKind.i32.wrap (((x % 1024:Nat):Int) * 2 ^ min 10 IntKind.i32.bits)=((x % 1024 * 1024:Nat):Int):=by
 have e:((x % 1024:Nat):Int) * 2 ^ min 10 IntKind.i32.bits=((x % 1024 * 1024:Nat):Int):=by show ((x % 1024:Nat):Int) * 1024=_; omega
 rw [e]
 simp [IntKind.wrap,IntKind.bits,IntKind.signed]; omega
theorem qIW (s:List UInt8) (hs:s.length≤1000000000000):AFn Tryz.prog G 64 [.str s] (.tup [.int .i32 (yY s).1,.int .i64 (yY s).2.1,.bool (yY s).2.2]):=by
 refine AFn.introU tok Tryz.func64 (by kernel_rfl) rfl rfl ?_
 simp only [Tryz.f64,qN,List.map_cons,List.map_nil]
 have hu1:=qPH (G:=G) s
 have hu2:=qPH (G:=G) (s.drop 6)
 have hl1:=qFF s
 have hl2:=qFF (s.drop 6)
 have hIB:∀ c:UInt8,AFn Tryz.prog G 31 [.str qEU,.int .u8 c.toNat] (.int .i64 (Lib.indexByte qEU c)):=fun c=>by
  have:=jW (G:=G) qEU c.toNat
  simpa using this
 refine rgn [] [[],[],[0]] ?_
 iterate 3 refine op1 tok ?_
 refine qA (AW.seq (rgn [] [[],[],[0,11]] ?_))
 iterate 3 refine op1 tok ?_
 refine qA (cnd ?_ ?_)
 ·intro h11
  try simp at h11
  have he:yY s=(0,0,false):=by
   match s,h11 with
   | [],_=>rfl
   | [a],_=>rfl
   | a::b::t,h=>simp at h; omega
  refine rgn [] [[],[],[]] ?_
  iterate 3 refine op1 tok ?_
  refine qA ?_
  exact AW.ret (qR (k:=by simp [he]))
 intro h11
 try simp at h11
 obtain ⟨a,c,t,rfl⟩:∃ a c t,s=a::c::t:=by
  match s,h11 with
  | [],h=>simp at h
  | [a],h=>simp at h
  | a::c::t,_=>exact ⟨a,c,t,rfl⟩
 have hat:=qUG c
 refine AW.skip (AW.seq (rgn [.int .u8 c.toNat,.nilp,.int .i64 (Lib.indexByte qEU c)] [[],[],[],[0,5]] ?_))
 iterate 4 refine op1 tok ?_ (hv:=by first | with_reducible exact True.intro | (first | exact hIB c | simp; done) | omega | simp | (simp +contextual; omega))
 refine qA (rgn [] [[],[0,5,16]] ?_)
 iterate 2 refine op1 tok ?_
 refine qA (cnd ?_ ?_)
 ·intro h16
  try simp at h16
  obtain ⟨v,hv⟩:∃ v,qDQ c=some v:=by
   cases hv:qDQ c with
   | none=>rw [hv] at hat; simp at hat; omega
   | some v=>exact ⟨v,rfl⟩
  rw [hv] at hat
  simp only [Option.isSome_some,if_true,Option.getD_some] at hat
  have he:yY (a::c::t)=(v,2,true):=by unfold yY; simp only [hv]
  have hvn:((UInt8.ofNat v).toNat:Int)=v:=by simp; omega
  refine rgn [.int .u8 (UInt8.ofNat v).toNat] [[],[],[],[2],[],[]] ?_
  iterate 6 refine op1 tok ?_ (hv:=by first | with_reducible exact True.intro | (first | exact ⟨hat.1,_,hat.2.2.1,rfl⟩ | simp; done) | omega | simp | (simp +contextual; omega))
  refine qA ?_
  exact AW.ret (qR (k:=by simp [he]; omega))
 intro h16
 try simp at h16
 have hv:qDQ c=none:=by
  cases hv:qDQ c with
  | none=>rfl
  | some v=>rw [hv] at hat; simp at hat; omega
 have he:yY (a::c::t)=qUH (yJ (a::c::t)) (yJ ((a::c::t).drop 6)):=by unfold yY; simp only [hv]
 rw [he]
 unfold qUH
 have hlen6:(yJ (a::c::t)).isSome=true→6≤(a::c::t).length:=by
  unfold yJ; split
  ·intro h; cases h
  intro _; omega
 generalize yJ (a::c::t)=A at *
 generalize yJ ((a::c::t).drop 6)=B at *
 generalize A.getD 0=x at *
 generalize B.getD 0=y at *
 refine AW.skip (rgn [.nilp,.tup [.int .i32 x,.bool A.isSome]] [[],[],[],[],[],[0,6,24],[0,6,7]] ?_)
 iterate 7 refine oq1 tok hu1 ?_
 refine qA (AW.seq (rgn [] [[],[],[],[],[],[0,6,7,27,30],[0,6,7,31]] ?_))
 iterate 3 refine op1 tok ?_
 iterate 3 refine op2 tok ?_
 refine op1 tok ?_
 refine qA (cnd ?_ ?_)
 ·intro h31
  try simp at h31
  rw [qLN] at h31
  have hc:A.isSome=false∨x / 1024≠54:=h31.imp (fun h=>by rw [h]; rfl) id
  rw [if_pos hc]
  refine rgn [] [[],[],[],[],[32,34,36],[],[],[2,38],[],[2,3,4]] ?_
  iterate 3 refine op1 tok ?_
  iterate 3 refine op2 tok ?_
  iterate 4 refine op1 tok ?_
  refine qA ?_
  exact AW.ret (qR (k:=by simp [qLM]))
 intro h31
 try simp at h31
 rw [qLN] at h31
 have hA:A.isSome=true:=by
  cases A with
  | none=>exact absurd rfl h31.1
  | some v=>rfl
 rw [if_neg (fun h=>h.elim (fun h=>by rw [hA] at h; cases h) (fun h=>h h31.2))]
 have h6:=hlen6 hA
 have ht:List.take ((t.length:Int)+1+1).toNat (a::c::t)=a::c::t:=List.take_of_length_le (by simp; omega)
 have e1:=qQM hl1
 have e2:=qQM hl2
 have e3:=zAS x
 refine AW.skip (rgn [.nilp,.tup [.int .i32 y,.bool B.isSome]] [[],[],[],[6,39],[],[],[],[6,7,8]] ?_)
 iterate 8 refine op1 tok ?_ (hv:=by first | with_reducible exact True.intro | (first | (rw [ht]; exact hu2) | (simp at h6; omega); done) | omega | simp | (simp +contextual; omega))
 refine qA (rgn [] [[],[],[],[7,8,48],[],[],[],[8,51,52],[],[],[],[51,53,56],[],[],[],[2,3,4]] ?_)
 iterate 9 refine op1 tok ?_ (hv:=by first | with_reducible exact True.intro | (simp only [e1,e2,e3]; omega; done) | omega | simp | (simp +contextual; omega))
 iterate 3 refine op2 tok ?_ (hv:=by first | with_reducible exact True.intro | (simp only [e1,e2,e3]; omega; done) | omega | simp | (simp +contextual; omega))
 iterate 4 refine op1 tok ?_ (hv:=by first | with_reducible exact True.intro | (simp only [e1,e2,e3]; omega; done) | omega | simp | (simp +contextual; omega))
 refine qA ?_
 exact AW.ret (qR (k:=by simp [qLM,e1,e2]; simpa using e3))
theorem qQH {s:List UInt8} (h:(yY s).2.2=true):(yY s).1≤1114111∧((yY s).1<55296∨57343<(yY s).1)∧2≤(yY s).2.1∧(yY s).2.1≤12:=by
 match s with
 | []=>simp [yY] at h
 | [a]=>simp [yY] at h
 | a::c::t =>
  have hat:=qUG c
  have h1:=qFF (a::c::t)
  unfold yY at h ⊢
  cases hv:qDQ c with
  | some v =>
   simp only [hv,Option.isSome_some,if_true,Option.getD_some] at hat h ⊢
   omega
  | none =>
   simp only [hv] at h ⊢
   unfold qUH at h ⊢
   generalize yJ (a::c::t)=A at *
   generalize yJ ((a::c::t).drop 6)=B at *
   generalize A.getD 0=x at *
   generalize B.getD 0=y at *
   by_cases hc:A.isSome=false∨x / 1024≠54
   ·rw [if_pos hc] at h ⊢
    simp only [Bool.and_eq_true,decide_eq_true_eq] at h
    have h54:x / 1024≠54:=hc.resolve_left (fun e=>by rw [h.1] at e; cases e)
    simp only
    omega
   rw [if_neg hc] at h ⊢
   simp only
   omega
theorem qKX (f k:Nat) (out:List UInt8):jZ f [] k out=([],0,6):=by cases f <;> simp [jZ]
theorem qFC (r:Int):1≤(Lib.encodeRune r).length∧(Lib.encodeRune r).length≤4:=by
 have:=Lib.encodeRuneZ_length r
 simpa only [Lib.encodeRune,List.length_map] using this
theorem qOX (hG:U8 G) (s:List UInt8) (hs:s.length≤1000000000):AFn Tryz.prog G 33 [.str s] (.tup [.str (zQ s).1,.int .i64 (zQ s).2.1,.int .i64 (zQ s).2.2]):=by
 refine AFn.introU tok Tryz.func33 (by kernel_rfl) rfl rfl ?_
 simp only [Tryz.f33,qN,List.map_cons,List.map_nil]
 have hpre:zG s [34]=decide (s.head?=some 34):=by cases s <;> simp [zG]
 refine rgn [] [[],[],[0]] ?_
 iterate 3 refine op1 tok ?_
 refine qA (AW.seq (rgn [.nilp,.bool (zG s [34])] [[],[],[0,12]] ?_))
 iterate 3 refine op1 tok ?_
 refine qA (cnd ?_ ?_)
 ·intro h12
  try simp at h12
  have hu:zQ s=([],0,6):=by
   unfold zQ; rw [if_neg]; rw [hpre] at h12; simpa using h12
  refine rgn [] [[],[],[]] ?_
  iterate 3 refine op1 tok ?_
  refine qA ?_
  exact AW.ret (qR (k:=by simp [hu]))
 intro h12
 try simp at h12
 have hu:zQ s=jZ s.length (s.drop 1) 1 []:=by
  unfold zQ; rw [if_pos]; rw [hpre] at h12; simpa using h12
 rw [hu]
 have hs0:1≤s.length:=by cases s with
  | nil=>rw [hpre] at h12; simp at h12
  | cons b s=>simp
 refine AW.skip (rgn [] [[]] ?_)
 refine op1 tok ?_
 refine qA (AW.seq ?_)
 refine AW.renE 5 2 (by simp) (by conv=>lhs; simp) ?_
 refine AW.beginBox 2 3 1 5 1 (by simp; exact ⟨rfl,rfl⟩) (by simp) (by simp) (by conv=>lhs; simp) ?_
 refine rgn [] [[]] ?_
 refine op1 tok ?_
 refine qA (AW.block ?_)
 refine AW.loop (α:=Nat × List UInt8 × Bool × Nat) (fun a=>jZ s.length (s.drop 1) 1 []=jZ a.2.2.2 (s.drop a.1) a.1 a.2.1∧s.length+1≤a.2.2.2+a.1∧a.2.1.length≤4 * a.1∧a.1≤s.length+12) (fun a=>⟨zO 61 [(0,.p (.str s)),(5,.ptr 2 0),(6,.p (.int .i64 a.1))],[],[(2,.vars 85 [if a.2.2.1=true then .ptr 2 0 else .p .nilp,.ms 3]),(3,.row 5 1 (qJ a.2.1))],0⟩) (fun a=>s.length+12-a.1) ((1,[],false,s.length)) ⟨rfl,by simp,by simp,by simp⟩ ⟨qD (by simp),rfl,by simp,by simp⟩ ?_
 rintro ⟨k,out,u,f⟩ ⟨hq,hf,hol,hk⟩
 simp only at hq hf hol hk
 rw [hq]
 clear hq hu
 refine AW.seq ?_
 by_cases hs5:u=true
 ·
  first | rw [if_pos hs5] | rw [if_neg hs5]
  refine rgn [] [[],[],[],[0,5,6,16]] ?_
  iterate 4 refine op1 tok ?_
  refine qA (cnd ?_ ?_)
  ·intro h16
   try simp at h16
   obtain ⟨f,rfl⟩:∃ g,f=g+1:=⟨f-1,by omega⟩
   have hne:s.drop k≠[]:=by intro e; have:=congrArg List.length e; simp at this; omega
   have hdec:=qBJ (G:=G) hG (s.drop k) hne
   have hstep : jZ (f + 1) (s.drop k) k out = if (Lib.decodeL (s.drop k)).1 = 34 then (if 4096 < out.length then ([], 0, 3) else (out, k + 1, 0)) else if (Lib.decodeL (s.drop k)).1 < 32 ∨ ((Lib.decodeL (s.drop k)).1 = 65533 ∧ (Lib.decodeL (s.drop k)).2 = 1) then ([], 0, 6)
     else if (Lib.decodeL (s.drop k)).1=92 then (match qOM (s.drop k) with
      | none=>([],0,6)
      | some (c,n)=>jZ f ((s.drop k).drop n) (k+n) (out++Lib.encodeRune c))
     else jZ f ((s.drop k).drop (Lib.decodeL (s.drop k)).2) (k+(Lib.decodeL (s.drop k)).2) (out++Lib.encodeRune (Lib.decodeL (s.drop k)).1):=by
    simp only [jZ]; rw [if_neg hne] <;> rfl
   rw [hstep]
   clear hstep
   have hok:=qBZ (s.drop k)
   have hmx:=xR (s.drop k)
   have hwl:=Lib.decodeL_le (s.drop k) hne
   have hwp:=qEL (s.drop k) hne
   have hesc:=qIW (G:=G) (s.drop k) (by simp; omega)
   have hEL:qOM (s.drop k)=if (yY (s.drop k)).2.2=true then some ((yY (s.drop k)).1,(yY (s.drop k)).2.1) else none:=rfl
   have hEO:=qQH (s:=s.drop k)
   rw [hEL]
   clear hEL
   rw [List.length_drop] at hwl
   generalize Lib.decodeL (s.drop k)=p at *
   obtain ⟨r,w⟩:=p
   generalize yY (s.drop k)=q at *
   obtain ⟨c,n,ok⟩:=q
   simp only at *
   refine AW.skip (AW.block (rgn [.nilp,.tup [.int .i32 r,.int .i64 w]] [[],[],[],[],[0,5,6,17],[],[],[],[0,5,6,7,8]] ?_))
   iterate 9 refine oq1 tok hdec ?_
   refine qA (AW.seq (AW.block (rgn [] [[],[],[0,5,6,7,8,24]] ?_)))
   iterate 3 refine op1 tok ?_
   refine qA (cnd ?_ ?_)
   ·intro h24
    try simp at h24
    rw [if_pos (show r=34 by omega)]
    refine AW.seq ?_
    refine AW.seqRegionO [] ?_
    refine qE.stepK [5,6,27] (qK rfl (qXT out) (by simp)) (by conv=>lhs; simp) rfl ?_
    refine qE.run [[5,6,28]] ?_
    refine op1 tok ?_
    refine qA (cnd ?_ ?_)
    ·intro h28
     try simp at h28
     rw [if_pos (show 4096<out.length by omega)]
     refine rgn [] [[],[],[]] ?_
     iterate 3 refine op1 tok ?_
     exact qA (AW.ret qR)
    intro h28
    try simp at h28
    rw [if_neg (show ¬ 4096<out.length by omega)]
    refine AW.skip ?_
    refine AW.seqRegionO [] ?_
    refine qE.stepK [6,29] (qK rfl (qDV out) (by simp)) (by conv=>lhs; simp) rfl ?_
    refine qE.run [[],[],[],[2,3],[]] ?_
    iterate 5 refine op1 tok ?_
    exact qA (AW.ret qR)
   intro h24
   try simp at h24
   rw [if_neg (show ¬ r=34 by omega)]
   refine rgn [] [[],[],[],[],[],[0,5,6,7,8,35,38],[],[],[],[0,5,6,7,8,42],[0,5,6,7,8,32]] ?_
   iterate 3 refine op1 tok ?_
   iterate 6 refine op2 tok ?_
   iterate 2 refine op1 tok ?_
   refine qA (cnd ?_ ?_)
   ·intro h32
    try simp at h32
    rw [if_pos (show r<32∨(r=65533∧w=1) by omega)]
    refine rgn [] [[],[],[]] ?_
    iterate 3 refine op1 tok ?_
    exact qA (AW.ret qR)
   intro h32
   try simp at h32
   rw [if_neg (show ¬ (r<32∨(r=65533∧w=1)) by omega)]
   refine rgn [] [[],[],[0,5,6,7,8,43]] ?_
   iterate 3 refine op1 tok ?_
   refine qA (cnd ?_ ?_)
   ·intro h43
    try simp at h43
    rw [if_pos (show r=92 by omega)]
    refine rgn [] [[0,5,6]] ?_
    refine op1 tok ?_
    refine qA (rgn [.nilp,.tup [.int .i32 c,.int .i64 n,.bool ok]] [[],[],[],[],[0,5,6,46],[],[],[],[],[],[0,5,6,7,8,9]] ?_)
    iterate 11 refine oq1 tok hesc ?_
    refine qA (rgn [] [[],[0,5,6,7,8,55]] ?_)
    iterate 2 refine op1 tok ?_
    refine qA (cnd ?_ ?_)
    ·intro h55
     try simp at h55
     subst h55
     refine rgn [] [[],[],[]] ?_
     iterate 3 refine op1 tok ?_
     exact qA (AW.ret qR)
    intro h55
    try simp at h55
    subst h55
    have hE:=hEO rfl
    simp only [if_true]
    refine AW.skip ?_
    have hel:=qFC c
    refine rgn [] [[]] ?_
    refine op1 tok ?_
    refine qF ?_
    refine qE.stepK [0,5,6,8] (qK rfl (kY out c (by omega) (by omega) (by omega) (by omega)) (by simp)) (by conv=>lhs; simp) rfl ?_
    refine qE.nil ?_
    refine rgz [] [[],[],[0,5,60],[0,5,6]] ?_
    iterate 4 refine op1 tok ?_
    refine qA ?_
    exact ⟨(k+n,out++Lib.encodeRune c,true,f),⟨by rw [List.drop_drop],by simp only []; omega,by simp; omega,by simp only []; omega⟩,by simp only []; omega,qD (by simp [qJ]),rfl,by simp [qJ],by simp [qJ]⟩
   intro h43
   try simp at h43
   rw [if_neg (show ¬ r=92 by omega)]
   refine AW.skip ?_
   have hel:=qFC r
   refine rgn [] [[]] ?_
   refine op1 tok ?_
   refine qF ?_
   refine qE.stepK [0,5,6,8] (qK rfl (kY out r (by omega) (by omega) (by omega) (by omega)) (by simp)) (by conv=>lhs; simp) rfl ?_
   refine qE.nil ?_
   refine rgz [] [[],[],[0,5,60],[0,5,6]] ?_
   iterate 4 refine op1 tok ?_
   refine qA ?_
   exact ⟨(k+w,out++Lib.encodeRune r,true,f),⟨by rw [List.drop_drop],by simp only []; omega,by simp; omega,by simp only []; omega⟩,by simp only []; omega,qD (by simp [qJ]),rfl,by simp [qJ],by simp [qJ]⟩
  intro h16
  try simp at h16
  rw [List.drop_of_length_le (show s.length≤k by omega),qKX]
  refine AW.exit ?_
  simp
  refine rgn [] [[],[],[]] ?_
  iterate 3 refine op1 tok ?_
  exact qA (AW.ret qR)
 ·
  first | rw [if_pos hs5] | rw [if_neg hs5]
  refine rgn [] [[],[],[],[0,5,6,16]] ?_
  iterate 4 refine op1 tok ?_
  refine qA (cnd ?_ ?_)
  ·intro h16
   try simp at h16
   obtain ⟨f,rfl⟩:∃ g,f=g+1:=⟨f-1,by omega⟩
   have hne:s.drop k≠[]:=by intro e; have:=congrArg List.length e; simp at this; omega
   have hdec:=qBJ (G:=G) hG (s.drop k) hne
   have hstep : jZ (f + 1) (s.drop k) k out = if (Lib.decodeL (s.drop k)).1 = 34 then (if 4096 < out.length then ([], 0, 3) else (out, k + 1, 0)) else if (Lib.decodeL (s.drop k)).1 < 32 ∨ ((Lib.decodeL (s.drop k)).1 = 65533 ∧ (Lib.decodeL (s.drop k)).2 = 1) then ([], 0, 6)
     else if (Lib.decodeL (s.drop k)).1=92 then (match qOM (s.drop k) with
      | none=>([],0,6)
      | some (c,n)=>jZ f ((s.drop k).drop n) (k+n) (out++Lib.encodeRune c))
     else jZ f ((s.drop k).drop (Lib.decodeL (s.drop k)).2) (k+(Lib.decodeL (s.drop k)).2) (out++Lib.encodeRune (Lib.decodeL (s.drop k)).1):=by
    simp only [jZ]; rw [if_neg hne] <;> rfl
   rw [hstep]
   clear hstep
   have hok:=qBZ (s.drop k)
   have hmx:=xR (s.drop k)
   have hwl:=Lib.decodeL_le (s.drop k) hne
   have hwp:=qEL (s.drop k) hne
   have hesc:=qIW (G:=G) (s.drop k) (by simp; omega)
   have hEL:qOM (s.drop k)=if (yY (s.drop k)).2.2=true then some ((yY (s.drop k)).1,(yY (s.drop k)).2.1) else none:=rfl
   have hEO:=qQH (s:=s.drop k)
   rw [hEL]
   clear hEL
   rw [List.length_drop] at hwl
   generalize Lib.decodeL (s.drop k)=p at *
   obtain ⟨r,w⟩:=p
   generalize yY (s.drop k)=q at *
   obtain ⟨c,n,ok⟩:=q
   simp only at *
   refine AW.skip (AW.block (rgn [.nilp,.tup [.int .i32 r,.int .i64 w]] [[],[],[],[],[0,5,6,17],[],[],[],[0,5,6,7,8]] ?_))
   iterate 9 refine oq1 tok hdec ?_
   refine qA (AW.seq (AW.block (rgn [] [[],[],[0,5,6,7,8,24]] ?_)))
   iterate 3 refine op1 tok ?_
   refine qA (cnd ?_ ?_)
   ·intro h24
    try simp at h24
    rw [if_pos (show r=34 by omega)]
    refine AW.seq ?_
    refine AW.seqRegionO [] ?_
    refine qE.stepK [5,6,27] (qK rfl (qVG out) (by simp)) (by conv=>lhs; simp) rfl ?_
    refine qE.run [[5,6,28]] ?_
    refine op1 tok ?_
    refine qA (cnd ?_ ?_)
    ·intro h28
     try simp at h28
     rw [if_pos (show 4096<out.length by omega)]
     refine rgn [] [[],[],[]] ?_
     iterate 3 refine op1 tok ?_
     exact qA (AW.ret qR)
    intro h28
    try simp at h28
    rw [if_neg (show ¬ 4096<out.length by omega)]
    refine AW.skip ?_
    refine AW.seqRegionO [] ?_
    refine qE.stepK [6,29] (qK rfl (qOY out) (by simp)) (by conv=>lhs; simp) rfl ?_
    refine qE.run [[],[],[],[2,3],[]] ?_
    iterate 5 refine op1 tok ?_
    exact qA (AW.ret qR)
   intro h24
   try simp at h24
   rw [if_neg (show ¬ r=34 by omega)]
   refine rgn [] [[],[],[],[],[],[0,5,6,7,8,35,38],[],[],[],[0,5,6,7,8,42],[0,5,6,7,8,32]] ?_
   iterate 3 refine op1 tok ?_
   iterate 6 refine op2 tok ?_
   iterate 2 refine op1 tok ?_
   refine qA (cnd ?_ ?_)
   ·intro h32
    try simp at h32
    rw [if_pos (show r<32∨(r=65533∧w=1) by omega)]
    refine rgn [] [[],[],[]] ?_
    iterate 3 refine op1 tok ?_
    exact qA (AW.ret qR)
   intro h32
   try simp at h32
   rw [if_neg (show ¬ (r<32∨(r=65533∧w=1)) by omega)]
   refine rgn [] [[],[],[0,5,6,7,8,43]] ?_
   iterate 3 refine op1 tok ?_
   refine qA (cnd ?_ ?_)
   ·intro h43
    try simp at h43
    rw [if_pos (show r=92 by omega)]
    refine rgn [] [[0,5,6]] ?_
    refine op1 tok ?_
    refine qA (rgn [.nilp,.tup [.int .i32 c,.int .i64 n,.bool ok]] [[],[],[],[],[0,5,6,46],[],[],[],[],[],[0,5,6,7,8,9]] ?_)
    iterate 11 refine oq1 tok hesc ?_
    refine qA (rgn [] [[],[0,5,6,7,8,55]] ?_)
    iterate 2 refine op1 tok ?_
    refine qA (cnd ?_ ?_)
    ·intro h55
     try simp at h55
     subst h55
     refine rgn [] [[],[],[]] ?_
     iterate 3 refine op1 tok ?_
     exact qA (AW.ret qR)
    intro h55
    try simp at h55
    subst h55
    have hE:=hEO rfl
    simp only [if_true]
    refine AW.skip ?_
    have hel:=qFC c
    refine rgn [] [[]] ?_
    refine op1 tok ?_
    refine qF ?_
    refine qE.stepK [0,5,6,8] (qK rfl (qBI out c (by omega) (by omega) (by omega) (by omega)) (by simp)) (by conv=>lhs; simp) rfl ?_
    refine qE.nil ?_
    refine rgz [] [[],[],[0,5,60],[0,5,6]] ?_
    iterate 4 refine op1 tok ?_
    refine qA ?_
    exact ⟨(k+n,out++Lib.encodeRune c,true,f),⟨by rw [List.drop_drop],by simp only []; omega,by simp; omega,by simp only []; omega⟩,by simp only []; omega,qD (by simp [qJ]),rfl,by simp [qJ],by simp [qJ]⟩
   intro h43
   try simp at h43
   rw [if_neg (show ¬ r=92 by omega)]
   refine AW.skip ?_
   have hel:=qFC r
   refine rgn [] [[]] ?_
   refine op1 tok ?_
   refine qF ?_
   refine qE.stepK [0,5,6,8] (qK rfl (qBI out r (by omega) (by omega) (by omega) (by omega)) (by simp)) (by conv=>lhs; simp) rfl ?_
   refine qE.nil ?_
   refine rgz [] [[],[],[0,5,60],[0,5,6]] ?_
   iterate 4 refine op1 tok ?_
   refine qA ?_
   exact ⟨(k+w,out++Lib.encodeRune r,true,f),⟨by rw [List.drop_drop],by simp only []; omega,by simp; omega,by simp only []; omega⟩,by simp only []; omega,qD (by simp [qJ]),rfl,by simp [qJ],by simp [qJ]⟩
  intro h16
  try simp at h16
  rw [List.drop_of_length_le (show s.length≤k by omega),qKX]
  refine AW.exit ?_
  simp
  refine rgn [] [[],[],[]] ?_
  iterate 3 refine op1 tok ?_
  exact qA (AW.ret qR)
end Go.Proofs.YtbhhphabggcacaaGreatDoor
namespace Go.Proofs.YtbhhphabggcacaaGreatDoor.Sy
open Go
set_option linter.unusedSimpArgs false
section
variable {P:Program} {T:Tab} {G:qM} {Q:Exit→St→Prop} {st st':St}
def qTM (ks:List (List UInt8)) (s:List UInt8):List (List UInt8):=if s∈ks then ks else ks++[s]
def qTL (ks:List (List UInt8)) (vs:List V) (s:List UInt8) (v:V):List V:=if s∈ks then vs.set (ks.idxOf s) v else vs++[v]
theorem qRQ {α:Type} [BEq α] [LawfulBEq α] {l:List α} (h:l.Nodup) {j:Nat} {x:α} (hj:l[j]?=some x):l.idxOf x=j:=by
 obtain ⟨hl,hx⟩:=List.getElem?_eq_some_iff.1 hj
 rw [← hx]
 exact h.idxOf_getElem j hl
theorem qKR (hT : TOK P T) {o : Oper} {t : TypeId} {m k y : Operand} {kt et : TypeId} {p q q' : Prop} {id : Nat} {s : List UInt8} {v : V} {ks : List (List UInt8)} {vs : List V} (ho : o.op = .mapUpdate t m k y) (hk : zU T t = some (.map kt et)) (hkt : zU T kt = some .str)
  (h1:st.arg G m=(p,.ms id)) (hp:p) (h2:st.arg G k=(q,.p (.str s))) (hq:q) (h3:st.arg G y=(q',v)) (hq':q') (hb:zT id st.H=some (.mp ks vs)) (hnd:ks.Nodup):qX P G o st .dead { st with H:=zV id (.mp (qTM ks s) (qTL ks vs s v)) st.H }:=by
 intro c M μ tmps w hg r
 have hd:=hT.map hk
 have hdk:=hT.str hkt
 have e1:=qG hg r h1 hp
 have e2:=(qG hg r h2 hq).p_inv
 have e3:=qG hg r h3 hq'
 generalize hu1:Act.eval ⟨tmps,[]⟩ m=u1 at e1
 generalize hu2:Act.eval ⟨tmps,[]⟩ k=u2 at e2
 generalize hu3:Act.eval ⟨tmps,[]⟩ y=u3 at e3
 cases e1 with
 | ms hval hone =>
 cases e2 with
 | @str ba _ hba hlen =>
 have hm:=zD hb
 have hbx:=r.box id _ hm
 cases hbx with
 | @mp _ _ b clock es h0 hv h3 hB h4 h5 h6 h7 =>
 rw [hv] at hval
 subst hval
 have hks:∀ x∈es.toList,MapKept.IsKey .string x.key:=by
  intro x hx
  obtain ⟨i,hi,rfl⟩:=List.mem_iff_getElem.1 hx
  have hi':i<es.size:=by simpa using hi
  obtain ⟨ba',he,_⟩:=h6 i es[i] ks[i] (by simp [hi']) (by simp [show i<ks.length by omega])
  simp only [Array.getElem_toList]
  rw [he]; trivial
 have hik:MapKept.IsKey .string (.string ba):=trivial
 have hbl:b<w.heap.size:=(r.own id b (qH.2 ⟨_,hm⟩) h0).2.1
 rcases MapKept.findNow_spec hik es.toList 0 hks with ⟨g1,g2⟩ | ⟨j,e',g1,g2,g3⟩
 ·have hnk:s ∉ ks:=by
   intro hmem
   obtain ⟨i,hi,rfl⟩:=List.mem_iff_getElem.1 hmem
   have hi':i<es.size:=by omega
   obtain ⟨ba',he,hbs⟩:=h6 i es[i] ks[i] (by simp [hi']) (by simp [hi])
   refine g2 es[i] (by simp) ?_
   rw [he]
   congr 1
   exact qUV (hbs.1.trans hba.symm)
  have e:(execOp (Act.eval ⟨tmps,[]⟩) o).run P w = .ok .skip { w with heap:=w.heap.setIfInBounds b (.map (es.push { key := .string ba,val:=u3,born:=clock }) (clock+1)) }:=by
   simp [execOp,ho,hu1,hu2,hu3,Instr.mapUpdate,run_underlying hd,MapKept.run_getObj_map h3,MapKept.run_checkKey hdk hik,MapKept.run_findKey hdk g1,MapKept.run_setObj_map _ h3,Result.andThen]
  rw [e]
  simp only [qTM,qTL,if_neg hnk]
  refine ⟨M,μ,r.write (qH.2 ⟨_,hm⟩) h0 ⟨rfl,rfl,rfl,by simp,fun k hk=>by simp [Array.getElem?_setIfInBounds_ne (Ne.symm hk)]⟩ (.mp (clock:=clock+1) (es:=es.push { key := .string ba,val:=u3,born:=clock }) h0 hv ?_ (hB.push _ _) (by simp [h4]) (by simp [h5]) ?_ ?_),.dead⟩
  ·simp [Array.getElem?_setIfInBounds,hbl]
  ·intro i e k he hk'
   rw [Array.getElem?_push] at he
   split at he
   ·rename_i hi; cases he
    rw [List.getElem?_append_right (by omega),hi,h4] at hk'
    simp at hk'; subst hk'
    exact ⟨ba,rfl,hba,hlen⟩
   have hi:i<es.size:=(Array.getElem?_eq_some_iff.1 he).1
   rw [List.getElem?_append_left (by omega)] at hk'
   exact h6 i e k he hk'
  intro i e x he hx
  rw [Array.getElem?_push] at he
  split at he
  ·rename_i hi; cases he
   rw [List.getElem?_append_right (by omega),hi,h5] at hx
   simp at hx; subst hx
   exact e3
  have hi:i<es.size:=(Array.getElem?_eq_some_iff.1 he).1
  rw [List.getElem?_append_left (by omega)] at hx
  exact h7 i e x he hx
 have hje:es[j]?=some e':=by simpa using g2
 have hj:j<es.size:=(Array.getElem?_eq_some_iff.1 hje).1
 have hkj:ks[j]?=some s:=by
  obtain ⟨ba',he,hbs⟩:=h6 j e' ks[j] hje (by simp [show j<ks.length by omega])
  rw [g3] at he
  cases he
  rw [List.getElem?_eq_getElem (by omega),← hbs.1,hba]
 have hmk:s∈ks:=List.mem_of_getElem? hkj
 have hidx:=qRQ hnd hkj
 have e:(execOp (Act.eval ⟨tmps,[]⟩) o).run P w = .ok .skip { w with heap:=w.heap.setIfInBounds b (.map (es.modify j fun e=>{ e with key := .string ba,val:=u3 }) clock) }:=by
  simp [execOp,ho,hu1,hu2,hu3,Instr.mapUpdate,run_underlying hd,MapKept.run_getObj_map h3,MapKept.run_checkKey hdk hik,MapKept.run_findKey hdk g1,hje,g3,MapKept.run_keyThatStays hik,MapKept.run_setObj_map _ h3,Result.andThen]
 rw [e]
 simp only [qTM,qTL,if_pos hmk,hidx]
 have hmod:∀ (i:Nat) (e:MapEntry),(es.modify j fun e=>{ e with key := .string ba,val:=u3 })[i]?=some e→∃ e0,es[i]?=some e0∧e=if i=j then { e0 with key := .string ba,val:=u3 } else e0:=fun i e he=>by
  rw [Array.getElem?_modify] at he
  split at he
  ·rename_i hi; subst hi
   obtain ⟨e0,h0,rfl⟩:=Option.map_eq_some_iff.1 he
   exact ⟨e0,h0,by rw [if_pos rfl]⟩
  rename_i hi; exact ⟨e,he,by rw [if_neg (fun h=>hi h.symm)]⟩
 have hborn:(es.modify j fun e=>{ e with key := .string ba,val:=u3 }).toList.map (·.born)=es.toList.map (·.born):=by
  apply List.ext_getElem?
  intro i
  simp only [List.getElem?_map,Array.getElem?_toList,Array.getElem?_modify]
  split
  ·simp [Option.map_map,Function.comp_def]
  rfl
 refine ⟨M,μ,r.write (qH.2 ⟨_,hm⟩) h0 ⟨rfl,rfl,rfl,by simp,fun k hk=>by simp [Array.getElem?_setIfInBounds_ne (Ne.symm hk)]⟩ (.mp (clock:=clock) (es:=es.modify j fun e=>{ e with key := .string ba,val:=u3 }) h0 hv ?_ ⟨fun x hx => ?_,by rw [hborn]; exact hB.2⟩ (by simpa using h4) (by simpa using h5) ?_ ?_),.dead⟩
 ·simp [Array.getElem?_setIfInBounds,hbl]
 ·have:x.born∈es.toList.map (·.born):=by rw [← hborn]; exact List.mem_map.2 ⟨x,hx,rfl⟩
  obtain ⟨y,hy,hyb⟩:=List.mem_map.1 this
  have:=hB.1 y hy
  omega
 ·intro i e k he hk'
  obtain ⟨e0,he0,rfl⟩:=hmod i e he
  split
  ·rename_i hi; subst hi
   rw [hkj] at hk'; cases hk'
   exact ⟨ba,rfl,hba,hlen⟩
  exact h6 i e0 k he0 hk'
 intro i e x he hx
 obtain ⟨e0,he0,rfl⟩:=hmod i e he
 rw [List.getElem?_set] at hx
 split at hx
 ·rename_i hi; subst hi
  split at hx
  ·cases hx; rw [if_pos rfl]; exact e3
  cases hx
 rename_i hi
 rw [if_neg (fun h=>hi h.symm)]
 exact h7 i e0 x he0 hx
theorem qSF (hT : TOK P T) {o : Oper} {t el : TypeId} {x y : Operand} (ho : o.op = .slice t x none (some y) none) (ht : zU T t = some (.sl el)) {p q : Prop} {id : Nat} {kd : IntKind} {z : Int} (n : Nat)
  (h1:st.arg G x=(p,.ms id)) (hp:p) (h2:st.arg G y=(q,.p (.int kd z))) (hq:q) {e sz:Nat} {es:List PD} {ti:TI} (hti:T el=some ti) (hb:zT id st.H=some (.row e sz es)) (hn:n≤es.length) (hz:z=(n:Int)) :
  qX P G o st (.ms id) { st.kill id with H:=(id,.row e sz (es.take n))::(st.kill id).H }:=by
 subst hz
 intro c M μ tmps w hg r
 have hd:=hT.sl ht
 obtain ⟨i,de,hi',_,_,hsz,_⟩:=hT.get hti
 have hso:(sizeOf el).run P w = .ok ti.size w:=by simp [sizeOf,typeInfo,hi',hsz]
 have e1:=qG hg r h1 hp
 have e2:=(qG hg r h2 hq).p_inv
 generalize hu1:Act.eval ⟨tmps,[]⟩ x=u1 at e1
 generalize hu2:Act.eval ⟨tmps,[]⟩ y=u2 at e2
 cases e1 with
 | ms hval hone =>
 cases e2 with
 | int _ _ =>
 have hm:=zD hb
 have hk:qL id st.H=true:=qH.2 ⟨_,hm⟩
 have rk:=r.kill id
 have hbx:=r.box id _ hm
 cases hbx with
 | rowN h0 hv =>
  rw [hv] at hval
  subst hval
  obtain rfl:n=0:=by simpa using hn
  have hbd:=kF (P:=P) (isSlice:=true) (len:=0) (cap:=0) (lo:=none) (hi:=some (.int kd 0)) (l:=0) (h:=0) (.inl ⟨rfl,rfl⟩) (.inr ⟨kd,rfl⟩) (by omega) (by omega) (by omega) w
  have er:(execOp (Act.eval ⟨tmps,[]⟩) o).run P w = .ok (.value (.slice none 0 0)) w:=by
   simp at hbd
   simp [execOp,ho,hu1,hu2,Instr.sliceAt,Instr.slice,run_underlying hd,hbd,hso]
  rw [er]
  exact ⟨M,upd μ id ⟨none,.slice none 0 0⟩,rk.adopt (l:=⟨none,.slice none 0 0⟩) (xI st id) (fun b hb=>by cases hb) (.rowN (by rw [qQ]) (by rw [qQ])),.ms (by rw [qQ]) rfl⟩
 | @row _ _ _ b cap arr h0 hv hh has hlc hcm hone' hz hcc =>
  rw [hv] at hval
  subst hval
  have hbd:=kF (P:=P) (isSlice:=true) (len:=es.length) (cap:=cap) (lo:=none) (hi:=some (.int kd n)) (l:=0) (h:=n) (.inl ⟨rfl,rfl⟩) (.inr ⟨kd,rfl⟩) (by omega) (by omega) (by omega) w
  have er:(execOp (Act.eval ⟨tmps,[]⟩) o).run P w = .ok (.value (.slice (some ⟨b,0,none⟩) n cap)) w:=by
   simp at hbd
   have ha:(if cap=0 then (some (⟨b,0,none⟩:Addr)) else (some (⟨b,0,none⟩:Addr)).map (·.add (0 * ti.size)))=some ⟨b,0,none⟩:=by
    split
    ·rfl
    simp [Addr.add]
   simp [execOp,ho,hu1,hu2,Instr.sliceAt,Instr.slice,run_underlying hd,hbd,hso]
   try simpa using ha
  rw [er]
  have hown:=r.own id b hk h0
  refine ⟨M,upd μ id ⟨some b,.slice (some ⟨b,0,none⟩) n cap⟩,rk.adopt (l:=⟨some b,.slice (some ⟨b,0,none⟩) n cap⟩) (xI st id) (fun b' hb' => ?_) (.row (cap:=cap) (by rw [qQ]) (by rw [qQ]; simp [Nat.min_eq_left hn]) hh has (by simp; omega) hcm hone' (fun i e' he=>hz i e' ?_) fun i e' j d u he hd hu=>hcc i e' j d u ?_ hd hu),.ms (by rw [qQ]) rfl⟩
  ·cases hb'; exact ⟨hown.1,hown.2.1,hown.2.2,qGK r hk h0⟩
  ·rw [List.getElem?_take] at he; split at he
   ·exact he
   cases he
  rw [List.getElem?_take] at he; split at he
  ·exact he
  cases he
theorem qHG {o : Oper} {st : St} {x a b : Operand} {tys : Array TypeId} {f : FuncId} (he : qQN P f Extern.BytealgCount.count)
  (ho:o.op = .call { callee := .value x,args := #[a,b],argTypes:=tys }) {p q r:Prop} {s:List UInt8} {n:Int} (hf:st.arg G x=(p,.p (.fn f))) (hp:p)
  (ha:st.arg G a=(q,.p (.str s))) (hq:q) (hb:st.arg G b=(r,.p (.int .u8 n))) (hr:r):qX P G o st (.p (.int .i64 (s.count n.toNat.toUInt8:Nat))) st:=by
 intro c M μ tmps w hg rel
 have h1:=(qG hg rel hf hp).p_inv
 have h2:=(qG hg rel ha hq).p_inv
 have h3:=(qG hg rel hb hr).p_inv
 generalize hu1:Act.eval ⟨tmps,[]⟩ x=u1 at h1
 generalize hu2:Act.eval ⟨tmps,[]⟩ a=u2 at h2
 generalize hu3:Act.eval ⟨tmps,[]⟩ b=u3 at h3
 cases h1
 cases h3
 cases h2 with
 | @str bb _ hs hm =>
 have e:(execOp (Act.eval ⟨tmps,[]⟩) o).run P w = .ok (.value (.int .i64 (s.count n.toNat.toUInt8:Nat))) w:=by
  have e1:=he #[.string bb,.int .u8 n] w
  rw [Lib.run_countString] at e1
  subst hs
  simp only [execOp,ho,resolve,Deferred.ofValue,hu1,invoke]
  simpa [hu2,hu3,Lib.countByte] using e1
 rw [e]
 have hc:s.count n.toNat.toUInt8≤s.length:=List.count_le_length
 simp [maxLen] at hm
 exact ⟨M,μ,rel,.p (Rd.intOf (by simp [wW]) (by simp only [wX]; omega))⟩
theorem qYS (k:Nat) {t:TypeId} {ms:Array (String × TypeId)} (ht:P.underlying t=some (.interface ms)) (t':TypeId) (v':Value) (w:World):(Op.equalIn (k+1) t (.iface t' v') .nilIface).run P w = .ok false w:=by
 simp [Op.equalIn,run_underlying ht]
theorem qUI (k:Nat) {t:TypeId} {ms:Array (String × TypeId)} (ht:P.underlying t=some (.interface ms)) (w:World):(Op.equalIn (k+1) t .nilIface .nilIface).run P w = .ok true w:=by
 simp [Op.equalIn,run_underlying ht]
def qJX (P:Program) (t:TypeId):Bool:=match P.underlying t with
 | some (.interface _)=>true
 | _=>false
theorem qJW {P:Program} {t:TypeId} (h:qJX P t=true):∃ ms,P.underlying t=some (.interface ms):=by
 unfold qJX at h
 split at h
 ·exact ⟨_,by assumption⟩
 cases h
end
end Go.Proofs.YtbhhphabggcacaaGreatDoor.Sy
namespace Go.Proofs.YtbhhphabggcacaaGreatDoor
open Sy Go
set_option maxRecDepth 100000
set_option linter.unusedSimpArgs false
set_option linter.unusedVariables false
variable {G:qM}
def wR:List UInt8:=[97,98,99,100,101,102,103,104,105,106,107,108,109,110,111,112,113,114,115,116,117,118,119,120,121,122]
def jH:List UInt8:=[97,98,99,100,101,102,103,104,105,106,107,108,109,110,111,112,113,114,115,116,117,118,119,120,121,122,48,49,50,51,52,53,54,55,56,57,95]
theorem vA {p:UInt8→Bool}:∀ {l:List UInt8},l.dropWhile p=[]↔∀ b∈l,p b=true
 | []=>by simp
 | a::l=>by
  have ih:=vA (p:=p) (l:=l)
  cases h:p a with
  | true=>simp [List.dropWhile_cons,h,ih]
  | false=>simp [List.dropWhile_cons,h]
theorem qAH {p:UInt8→Bool}:∀ {l r:List UInt8} {c:UInt8},l.dropWhile p=c::r→p c=false
 | [],_,_,h=>by simp at h
 | a::l,r,c,h=>by
  cases hp:p a with
  | true=>simp [List.dropWhile_cons,hp] at h; exact qAH h
  | false=>simp [List.dropWhile_cons,hp] at h; rw [← h.1]; exact hp
theorem qQR (s cs:List UInt8):qFJ s cs=[]↔∀ b∈s,asF cs b.toNat=true:=by
 unfold qFJ xA
 rw [vA]
 unfold qBC
 constructor
 ·intro h b hb
  have h2:(s.reverse.dropWhile fun b=>asF cs b.toNat)=[]:=by
   cases hd:(s.reverse.dropWhile fun b=>asF cs b.toNat) with
   | nil=>rfl
   | cons c r =>
    have h3:=h c (by rw [hd]; simp)
    have h4:=qAH hd
    rw [h3] at h4; cases h4
  rw [vA] at h2
  exact h2 b (by simpa using hb)
 intro h b hb
 simp only [List.mem_reverse] at hb
 exact h b (by simpa using List.Sublist.mem hb (List.dropWhile_sublist _))
theorem qBF (l:List UInt8) (c:UInt8):0≤Lib.indexByte l c↔c∈l:=by
 induction l with
 | nil=>simp [Lib.indexByte]
 | cons b l ih =>
  have hge:=Lib.indexByte_ge l c
  unfold Lib.indexByte
  by_cases h:b=c
  ·subst h; simp
  simp only [beq_iff_eq,h,if_false,List.mem_cons,Ne.symm h,false_or,← ih]
  by_cases h2:Lib.indexByte l c = -1
  ·simp [h2]
  simp only [h2,if_false]; omega
def vH (s:List UInt8):Bool:=(s.all fun b=>asF jH b.toNat) && (decide (s.length≤24) && match s with
 | b::_=>decide (b∈wR)
 | []=>false)
theorem qPA (s:List UInt8):AFn Tryz.prog G 65 [.str s] (.bool (vH s)):=by
 refine AFn.intro tok Tryz.func65 (by kernel_rfl) rfl ?_
 simp only [Tryz.f65,St.start]
 have hT:=qXO (G:=G) s jH (by decide) (by decide)
 refine AW.seqRun tok [] (by intro C; conv=>lhs; simp) trivial ?_
 refine AW.seqRun tok [.tup [.str s,.str jH],.str (qFJ s jH)] (by intro C; conv=>lhs; simp) (by simpa [jH] using hT) ?_
 have e1:decide (qFJ s jH=[])=s.all fun b=>asF jH b.toNat:=by
  rw [Bool.eq_iff_iff]; simp [qQR]
 rcases s with _ | ⟨b,s⟩
 ·refine AW.seqRun tok [.int .u8 0,.tup [.str wR,.int .u8 0],.int .i64 0] (by intro C; conv=>lhs; simp) (by simp) ?_
  exact AW.ret ⟨.inr rfl,_,_,by (conv=>lhs; simp),trivial,by simp [vH]⟩
 refine AW.seqRun tok [.int .u8 b.toNat,.tup [.str wR,.int .u8 b.toNat],.int .i64 (Lib.indexByte wR b)] (by intro C; conv=>lhs; simp) (by
  have:=jW (G:=G) wR b.toNat
  simp [wR] at this ⊢
  exact fun h1 h2=>⟨⟨h1,h2⟩,this⟩) ?_
 exact AW.ret ⟨.inr rfl,_,_,by (conv=>lhs; simp),trivial,by simp [vH,← e1,qBF,Bool.and_assoc]; congr 2; exact decide_eq_decide.2 (by omega)⟩
end Go.Proofs.YtbhhphabggcacaaGreatDoor
