import Derived.Test.YtcfcfblbpnpclaaGreatDoorSDeskC
import Derived.Test.YtcfcfblbpnpclaaGreatDoorSDeskIn
import Derived.Test.YtcfcfblbpnpclaaGreatDoorM4
import Derived.Test.YtcfcfblbpnpclaaGreatDoorSLibU
import Derived.Test.YtcfcfblbpnpclaaGreatDoorSItoaN
import Derived.Test.YtcfcfblbpnpclaaGreatDoorCards
import Derived.SevenTiedAt
import Derived.PinnedBridge
namespace Go.Proofs.YtcfcfblbpnpclaaGreatDoor
open Sy Go Go.ChangeShapes Go.WideShapes Go.ChangeAt Go.RowKit
set_option linter.unusedVariables false
abbrev wD:qK:=qGN 2 3 0
theorem qBA:U8Extra Tryz.prog Tryz.lays197_ren:=⟨by kernel_rfl,by kernel_rfl,by kernel_rfl,by kernel_rfl,by kernel_rfl,by kernel_rfl,by kernel_rfl⟩
theorem qBE:Rows.laid_unicode_utf8_acceptRanges=(Lib.acceptData:DataW Unit):=by kernel_rfl
theorem qBC:Rows.laid_internal_strconv_uint64pow10=(Lib.tabData .u64 Lib.pow10Tab:DataW Unit):=by kernel_rfl
theorem xK (W:World) (h:laidMetH Tryz.prog Rows.deskCountsRow.laid W):GOK wD (yU W) W:=by
 rw [MakeChecks.laidMetH_plain _ _ _ (by kernel_rfl)] at h
 have e3:Rows.laid_unicode_utf8_first=(Lib.firstData:DataW Unit):=Pinned.utf8First_eq
 have ht := Lib.laidMet.reads h (n := "internal/strconv.uint64pow10") (d := Rows.laid_internal_strconv_uint64pow10) (by simp [Rows.deskCountsRow])
 rw [qBC] at ht
 exact qJX (utf8Tabs_of_readsT { Tryz.lays197 with } qBA (Lib.laidMet.reads h (by rw [← e3]; simp [Rows.deskCountsRow])) (Lib.laidMet.reads h (by rw [← qBE]; simp [Rows.deskCountsRow]))) (by decide) (by kernel_rfl)
  (qCT (g:=0) (t:=314) (e:=87) (n:=20) (by kernel_rfl) (by kernel_rfl) (by kernel_rfl) (by kernel_rfl) (by kernel_rfl) (by kernel_rfl) ht)
theorem qAP (pds:List PD) (h:ShL T 5 Tryz.f4.params.toList pds):AFn Tryz.prog wD 4 pds (.bool true):=by
 rw [Tryz.params4] at h
 obtain ⟨d0,_,rfl,⟨c0,k0,t0,rfl,h0⟩,rfl⟩:=h
 obtain ⟨l,rfl,hl⟩:=qIK h0
 simp at t0
 subst t0
 have:=qBT (G:=wD) l (qHN _ _ _)
 simpa [kE] using this
theorem qBD:ownKnob Tryz.prog.godebug=none:=by kernel_rfl
set_option maxRecDepth 100000 in
theorem vE (os : Os) (started : os.Started) (H : Type) (enc : TypeId × Value → H) :
  ReturnsInHanded {} Tryz.checked os 4 .any (fun w args=>(Rows.deskCountsSpec.pre enc Tryz.prog Tryz.f4 [] false w args∧laidMetH Tryz.prog Rows.deskCountsRow.laid w)∧sizedMet enc Tryz.prog Tryz.f4 (OpenSpec.ofChange Rows.deskCountsSpec) false w args)
   (Rows.deskCountsSpec.post enc Tryz.prog Tryz.f4 false true false false):=by
 refine returnsInHanded_of_change_and (C:=Tryz.checked) (X:=fun w _=>laidMetH Tryz.prog Rows.deskCountsRow.laid w) (fun _ _ _ hh h=>h.of_heap hh) qBD started (by kernel_rfl) Tryz.func4
  (ChangeSpec.witness_shaped (enc:=enc) (C:=Tryz.checked) (os:=os) (X:=fun w _=>laidMetH Tryz.prog Rows.deskCountsRow.laid w) false (World.laidAll Tryz.prog os Rows.deskCountsRow.laid) #[.slice none 0 0] 8 (World.laidAll_os _ _ _)
   (World.shaped_of_ZipB (by kernel_rfl) (by kernel_rfl)) (by kernel_rfl) (by kernel_rfl) (by kernel_rfl)
   (by rw [MakeChecks.laidMetH_plain _ _ _ (by kernel_rfl)]; exact laidMet_laidAll _ (by kernel_rfl) (by kernel_rfl))) ?_
 intro W base args ds gs before hval0 hW _ hS hL _
 exact qIH (n:=5) (tb:=4) (G:=wD) tok hval0 hW (by kernel_rfl) (by kernel_rfl) (by kernel_rfl) rfl (fun ds h=>by
  match ds,h with
  | [d1],_=>rfl) rfl (by kernel_rfl) (xK W hL) hS qAP
set_option maxHeartbeats 4000000 in
theorem qBB:Rows.DeskCountsSaid :=
 OpenClaim.holds_of_wide 4 Tryz.f4 rfl rfl rfl rfl rfl rfl rfl ⟨rfl,rfl,rfl,rfl,rfl⟩ rfl rfl rfl rfl rfl (by as_aux_lemma=>kernel_rfl) Tryz.func4 (by
  unfold joinedFacts
  simp only [Bool.and_eq_true]
  (repeat' apply And.intro) <;> as_aux_lemma=>kernel_rfl)
  (of_decide_eq_true (by kernel_rfl)) (by unfold Func.isWrapper; first | (rw [if_pos (by decide +kernel)]; kernel_rfl) | (rw [if_neg (by decide +kernel)]; exact ⟨rfl,rfl⟩))
  (fun os started H enc _=>vE os started H enc)
end Go.Proofs.YtcfcfblbpnpclaaGreatDoor
