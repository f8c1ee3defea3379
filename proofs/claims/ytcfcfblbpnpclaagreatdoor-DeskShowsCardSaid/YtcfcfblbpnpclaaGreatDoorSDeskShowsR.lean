import Derived.Test.YtcfcfblbpnpclaaGreatDoorSDeskW
import Derived.Test.YtcfcfblbpnpclaaGreatDoorSDeskIn
import Derived.Test.YtcfcfblbpnpclaaGreatDoorM4
import Derived.Test.YtcfcfblbpnpclaaGreatDoorSLibU
import Derived.Test.YtcfcfblbpnpclaaGreatDoorSItoaN
import Derived.Test.YtcfcfblbpnpclaaGreatDoorCards
import Derived.SevenTiedAt
import Derived.PinnedBridge
namespace Go.Proofs.YtcfcfblbpnpclaaGreatDoor
open Sy Go Go.ChangeShapes Go.WideShapes Go.ChangeAt Go.RowKit
set_option linter.unusedVariables false
abbrev wM:qM:=qGS 2 3 0
theorem qBO:U8Extra Tryz.prog Tryz.lays197_ren:=⟨by kernel_rfl,by kernel_rfl,by kernel_rfl,by kernel_rfl,by kernel_rfl,by kernel_rfl,by kernel_rfl⟩
theorem qBS:Rows.laid_unicode_utf8_acceptRanges=(Lib.acceptData:DataW Unit):=by kernel_rfl
theorem qBQ:Rows.laid_internal_strconv_uint64pow10=(Lib.tabData .u64 Lib.pow10Tab:DataW Unit):=by kernel_rfl
theorem vK (W:World) (h:laidMetH Tryz.prog Rows.deskShowsRow.laid W):GOK wM (yZ W) W:=by
 rw [MakeChecks.laidMetH_plain _ _ _ (by kernel_rfl)] at h
 have e3:Rows.laid_unicode_utf8_first=(Lib.firstData:DataW Unit):=Pinned.utf8First_eq
 have ht := Lib.laidMet.reads h (n := "internal/strconv.uint64pow10") (d := Rows.laid_internal_strconv_uint64pow10) (by simp [Rows.deskShowsRow])
 rw [qBQ] at ht
 exact qJY (utf8Tabs_of_readsT { Tryz.lays197 with } qBO (Lib.laidMet.reads h (by rw [← e3]; simp [Rows.deskShowsRow])) (Lib.laidMet.reads h (by rw [← qBS]; simp [Rows.deskShowsRow]))) (by decide) (by kernel_rfl)
  (qCR (g:=0) (t:=314) (e:=87) (n:=20) (by kernel_rfl) (by kernel_rfl) (by kernel_rfl) (by kernel_rfl) (by kernel_rfl) (by kernel_rfl) ht)
theorem qBM (pds:List PD) (h:ShL T 5 Tryz.f3.params.toList pds):AFn Tryz.prog wM 3 pds (.bool true):=by
 rw [Tryz.params3] at h
 obtain ⟨d0,_,rfl,⟨c0,k0,t0,rfl,h0⟩,rfl⟩:=h
 obtain ⟨l,rfl,hl⟩:=qIK h0
 simp at t0
 subst t0
 have:=qDL (G:=wM) l (qHU _ _ _) hl
 simpa [kJ] using this
theorem qBR:ownKnob Tryz.prog.godebug=none:=by kernel_rfl
set_option maxRecDepth 100000 in
theorem uC (os : Os) (started : os.Started) (H : Type) (enc : TypeId × Value → H) :
  ReturnsInHanded {} Tryz.checked os 3 .any (fun w args=>(Rows.deskShowsSpec.pre enc Tryz.prog Tryz.f3 [] false w args∧laidMetH Tryz.prog Rows.deskShowsRow.laid w)∧sizedMet enc Tryz.prog Tryz.f3 (OpenSpec.ofChange Rows.deskShowsSpec) false w args)
   (Rows.deskShowsSpec.post enc Tryz.prog Tryz.f3 false true false false):=by
 refine returnsInHanded_of_change_and (C:=Tryz.checked) (X:=fun w _=>laidMetH Tryz.prog Rows.deskShowsRow.laid w) (fun _ _ _ hh h=>h.of_heap hh) qBR started (by kernel_rfl) Tryz.func3
  (ChangeSpec.witness_shaped (enc:=enc) (C:=Tryz.checked) (os:=os) (X:=fun w _=>laidMetH Tryz.prog Rows.deskShowsRow.laid w) false (World.laidAll Tryz.prog os Rows.deskShowsRow.laid) #[.slice none 0 0] 8 (World.laidAll_os _ _ _)
   (World.shaped_of_ZipB (by kernel_rfl) (by kernel_rfl)) (by kernel_rfl) (by kernel_rfl) (by kernel_rfl)
   (by rw [MakeChecks.laidMetH_plain _ _ _ (by kernel_rfl)]; exact laidMet_laidAll _ (by kernel_rfl) (by kernel_rfl))) ?_
 intro W base args ds gs before hval0 hW _ hS hL _
 exact qII (n:=5) (tb:=4) (G:=wM) tok hval0 hW (by kernel_rfl) (by kernel_rfl) (by kernel_rfl) rfl (fun ds h=>by
  match ds,h with
  | [d1],_=>rfl) rfl (by kernel_rfl) (vK W hL) hS qBM
set_option maxHeartbeats 4000000 in
theorem qBP:Rows.DeskShowsSaid :=
 OpenClaim.holds_of_wide 3 Tryz.f3 rfl rfl rfl rfl rfl rfl rfl ⟨rfl,rfl,rfl,rfl,rfl⟩ rfl rfl rfl rfl rfl (by as_aux_lemma=>kernel_rfl) Tryz.func3 (by
  unfold joinedFacts
  simp only [Bool.and_eq_true]
  (repeat' apply And.intro) <;> as_aux_lemma=>kernel_rfl)
  (of_decide_eq_true (by kernel_rfl)) (by unfold Func.isWrapper; first | (rw [if_pos (by decide +kernel)]; kernel_rfl) | (rw [if_neg (by decide +kernel)]; exact ⟨rfl,rfl⟩))
  (fun os started H enc _=>uC os started H enc)
end Go.Proofs.YtcfcfblbpnpclaaGreatDoor
