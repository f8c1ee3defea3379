import Derived.Test.YtcfcfblbpnpclaaGreatDoorSLibG
import Derived.Test.YtcfcfblbpnpclaaGreatDoorSShelf
import Derived.Shelf.Strings.OnBuilder
namespace Go.Proofs.YtcfcfblbpnpclaaGreatDoor
open Sy Go
set_option maxRecDepth 100000
set_option linter.unusedSimpArgs false
set_option linter.unusedVariables false
variable {G:qK}
theorem qAT:Builder.Extra Tryz.prog Tryz.lays156_ren where
 sizeBuilder:=by kernel_rfl
 liesBuilder:=by kernel_rfl
 t5:=Tryz.underlying5
 a5:=Tryz.isAgg5
 z5:=Tryz.sizeOf5
 v5:=Tryz.zeroValue5
 infoByte:=by kernel_rfl
 cellsByte:=by kernel_rfl
 sizeByte:=by kernel_rfl
 neB5:=by decide
def qHH (s:List UInt8):ByteArray:=⟨s.toArray⟩
theorem qKS {ba:ByteArray} {s:List UInt8} (h:ba.data.toList=s):ba=qHH s:=by
 subst h; rfl
theorem qEO (l:List (List UInt8)):(l.map qHH).map (·.data.toList)=l:=by
 rw [List.map_map]; conv=>rhs; rw [← List.map_id l]
 exact List.map_congr_left fun s _=>by simp [qHH]
theorem qKY (l:List (List UInt8)) (sep:List UInt8) (hN:l.length≤140737488355328) (h:(Lib.join l sep).length≤140737488355328):AFn Tryz.prog G 26 [.sl 1 (l.map PD.str),.str sep] (.str (Lib.join l sep)):=by
 refine AFn.of_calls (uI Tryz.func26 (by kernel_rfl) rfl) fun M w vs hg hmem hsz hrd => ?_
 obtain ⟨vl⟩:=vs
 match vl,hsz with
 | [u,v],_ =>
 have h1:=hrd 0 u _ rfl rfl
 have h2:=hrd 1 v _ rfl rfl
 cases h2 with
 | @str sb _ hsb hsl =>
 subst hsb
 cases h1 with
 | @sl a n c _ _ b o hn hnc hcm ha h5 h6 h7 =>
 rw [List.length_map] at hn
 have hml:(Lib.join l sb.data.toList).length≤maxLen:=by simp only [maxLen]; omega
 by_cases hk:l=[]
 ·subst hk; simp at hn; subst hn
  refine (Any.strings_Join_none Tryz.lays156 qAT a c sb w).mono ?_
  rintro e w' ⟨rfl,rfl⟩
  exact ⟨_,rfl,.str (by simp [Lib.join_nil]) (by simpa using hml),RowKit.Below.refl _ _⟩
 have hpos:0<l.length:=List.length_pos_iff.2 hk
 obtain rfl:=ha (by omega)
 have hcell:∀ j x,(l.map qHH)[j]?=some x→w.cell? ⟨b,o+j,none⟩=some (.string x):=fun j x hx=>by
  rw [List.getElem?_map,Option.map_eq_some_iff] at hx
  obtain ⟨s,hs,rfl⟩:=hx
  have hgt:(l.map PD.str)[j]?=some (.str s):=by rw [List.getElem?_map,hs]; rfl
  obtain ⟨u,hu,_⟩:=h6 j _ 0 hgt (by omega)
  have h8:=h7 j _ 0 _ u hgt rfl hu
  cases h8 with
  | @str ba _ hba hl =>
  have:=hmem _ _ _ hu
  simp only [Nat.mul_one,Nat.add_zero] at this
  rw [this,qKS hba]
 have hlt:b<w.heap.size:=by
  obtain ⟨x,r,rfl⟩:∃ x r,l=x::r:=by
   cases l with
   | nil=>exact (hk rfl).elim
   | cons x r=>exact ⟨x,r,rfl⟩
  exact yV (hcell 0 (qHH x) rfl)
 have hc:=Any.strings_Join Tryz.lays156 qAT b o c (l.map qHH) sb w hcell hlt (by rw [List.length_map]; exact hN) (by rw [List.length_map]; omega) (by rw [qEO]; exact h)
 rw [List.length_map,← hn] at hc
 refine hc.mono ?_
 rintro e w' ⟨rfl,hb⟩
 rw [qEO]
 exact ⟨_,rfl,.str (by simp) (by simpa using hml),hb⟩
end Go.Proofs.YtcfcfblbpnpclaaGreatDoor
