import Derived.Test.YtdojfdaglbphlaaGreatDoorK4
import Derived.Test.YtdojfdaglbphlaaGreatDoorSUnqP
import Derived.Test.YtdojfdaglbphlaaGreatDoorK2
namespace Go.Proofs.YtdojfdaglbphlaaGreatDoor
open Sy Go
set_option maxRecDepth 100000
set_option maxHeartbeats 4000000
set_option linter.unusedSimpArgs false
set_option linter.unusedVariables false
variable {G:qR}
def nV (c:UInt8):Val := .mk 4 0 ⟨false,[c],0⟩ [] [] [] 0
def oV (ks:List (List UInt8)) (vs:List Val):Val := .mk 7 0 dc0 [] ks vs 0
def lV (vs:List Val):Val := .mk 6 0 dc0 [] [] vs 0
def sA:List UInt8:=[123,34,97,34,58,49,125]
def sB:List UInt8:=[123,34,98,34,58,50,44,34,97,34,58,51,125]
def sC:List UInt8:=[91,49,44,50,44,49,93]
def sD:List UInt8:=[91,49,93]
theorem zTH:(qRB sA).1=oV [[97]] [nV 49]:=by kernel_rfl
theorem zTG:(qRB sB).1=oV [[98],[97]] [nV 50,nV 51]:=by kernel_rfl
theorem zTF:(qRB sC).1=lV [nV 49,nV 50,nV 49]:=by kernel_rfl
theorem zTE:(qRB sD).1=lV [nV 49]:=by kernel_rfl
theorem zTC:qYU (oV [[97]] [nV 49]) (oV [[98],[97]] [nV 50,nV 51]) (orM 0 0)=oV [[97],[98]] [nV 51,nV 50]:=by kernel_rfl
theorem zTD:qES (lV [nV 49,nV 50,nV 49]) (lV [nV 49]) (orM (qU (lV [nV 49,nV 50,nV 49])) (qU (lV [nV 49])))=lV [nV 50]:=by kernel_rfl
theorem zLL:zU (oV [[97],[98]] [nV 51,nV 50])=[123,34,97,34,58,51,44,34,98,34,58,50,125]:=by kernel_rfl
theorem zLK:zU (lV [nV 50])=[91,50,93]:=by kernel_rfl
theorem zCY {c:UInt8} (h:zO ⟨false,[c],0⟩=true):qS (nV c)=true :=
 jO (v:=nV c) (by show (1:Int)≤4∧(4:Int)≤8∧0≤200; decide) (by show (4:Int)=8↔(0:Int)≠0; decide) (fun _=>h) (fun h=>absurd rfl h) (fun h=>absurd (show (4:Int)=5 from h) (by decide)) (fun _=>rfl) (fun h=>absurd (show (4:Int)=7 from h) (by decide)) (fun _=>rfl) (.inl rfl) (by intro k hk; cases hk)
theorem wa:xA [97]=true:=by unfold xA; rw [Lib.validD_cons _ _ (by decide)]; rfl
theorem wb:xA [98]=true:=by unfold xA; rw [Lib.validD_cons _ _ (by decide)]; rfl
theorem n49:qS (nV 49)=true:=zCY (by decide +kernel)
theorem n50:qS (nV 50)=true:=zCY (by decide +kernel)
theorem n51:qS (nV 51)=true:=zCY (by decide +kernel)
theorem zDD {vs:List Val} (hl:vs.length≤200) (h:∀ v∈vs,qS v=true):qS (lV vs)=true :=
 jO (v:=lV vs) ⟨show (1:Int)≤6 by decide,show (6:Int)≤8 by decide,hl⟩ (by show (6:Int)=8↔(0:Int)≠0; decide) (fun h=>absurd (show (6:Int)=4 from h) (by decide)) (fun _=>rfl) (fun h=>absurd (show (6:Int)=5 from h) (by decide)) (fun _=>rfl) (fun h=>absurd (show (6:Int)=7 from h) (by decide)) (fun _=>rfl) (.inr (.inl rfl)) h
theorem zCS {ks:List (List UInt8)} {vs:List Val} (hl:vs.length≤200) (hk:ks.length=vs.length) (hw:qBX ks=true) (h:∀ v∈vs,qS v=true):qS (oV ks vs)=true :=
 jO (v:=oV ks vs) ⟨show (1:Int)≤7 by decide,show (7:Int)≤8 by decide,hl⟩ (by show (7:Int)=8↔(0:Int)≠0; decide) (fun h=>absurd (show (7:Int)=4 from h) (by decide)) (fun _=>rfl) (fun h=>absurd (show (7:Int)=5 from h) (by decide)) (fun _=>rfl) (fun _=>⟨hk,hw⟩) (fun h=>absurd rfl h) (.inr (.inr rfl)) h
theorem mA:qS (oV [[97]] [nV 49])=true:=zCS (by decide) rfl (by simp [qBX,wa]) (by intro v hv; rw [List.mem_singleton.1 hv]; exact n49)
theorem mB:qS (oV [[98],[97]] [nV 50,nV 51])=true:=zCS (by decide) rfl (by simp [qBX,wa,wb]) (by
 intro v hv
 simp only [List.mem_cons,List.not_mem_nil,or_false] at hv
 rcases hv with rfl | rfl
 ·exact n50
 exact n51)
theorem mR:qS (oV [[97],[98]] [nV 51,nV 50])=true:=zCS (by decide) rfl (by simp [qBX,wa,wb]) (by
 intro v hv
 simp only [List.mem_cons,List.not_mem_nil,or_false] at hv
 rcases hv with rfl | rfl
 ·exact n51
 exact n50)
theorem mC:qS (lV [nV 49,nV 50,nV 49])=true:=zDD (by decide) (by
 intro v hv
 simp only [List.mem_cons,List.not_mem_nil,or_false] at hv
 rcases hv with rfl | rfl | rfl
 ·exact n49
 ·exact n50
 exact n49)
theorem mD:qS (lV [nV 49])=true:=zDD (by decide) (by intro v hv; rw [List.mem_singleton.1 hv]; exact n49)
theorem mS:qS (lV [nV 50])=true:=zDD (by decide) (by intro v hv; rw [List.mem_singleton.1 hv]; exact n50)
theorem qVK {s:List UInt8} (hs:s.length≤1000) (h:s.all (fun b=>b != 92)=true):qQS G s:=fun k=>qXQ (G:=G) (s.drop k) (by simp; omega) fun b hb=>by
 have:=List.all_eq_true.1 h b (List.mem_of_mem_drop hb)
 simpa using this
def zYM (s:List UInt8):Bool:=(List.range (s.length+1)).all fun k=>decide (vC ((s.drop k).takeWhile kH)=wO ((s.drop k).takeWhile kH))
theorem qVL {s:List UInt8} (hs:s.length≤1000) (h:zYM s=true):qUK G s:=fun k=>by
 have hle:=(List.takeWhile_sublist kH (l:=s.drop k)).length_le
 rw [List.length_drop] at hle
 have hp:=zBL (G:=G) ((s.drop k).takeWhile kH) (by omega)
 have e:vC ((s.drop k).takeWhile kH)=wO ((s.drop k).takeWhile kH):=by
  unfold zYM at h
  rw [List.all_eq_true] at h
  by_cases hk:k≤s.length
  ·exact of_decide_eq_true (h k (List.mem_range.2 (by omega)))
  have:=h s.length (List.mem_range.2 (by omega))
  rw [List.drop_of_length_le (Nat.le_refl _)] at this
  rw [List.drop_of_length_le (by omega)]
  exact of_decide_eq_true this
 rwa [e] at hp
theorem zCG  : AFn Tryz.prog G 9 [] (.bool true):=by
 refine AFn.introU tok Tryz.func9 (by kernel_rfl) rfl rfl ?_
 simp only [Tryz.f9,qI,List.map_cons,List.map_nil]
 have dA:=qWG (G:=G) sA (by decide) (qVK (by decide) (by decide)) (qVL (by decide) (by decide +kernel))
 have dB:=qWG (G:=G) sB (by decide) (qVK (by decide) (by decide)) (qVL (by decide) (by decide +kernel))
 have dC:=qWG (G:=G) sC (by decide) (qVK (by decide) (by decide)) (qVL (by decide) (by decide +kernel))
 have dD:=qWG (G:=G) sD (by decide) (qVK (by decide) (by decide)) (qVL (by decide) (by decide +kernel))
 rw [zTH] at dA
 rw [zTG] at dB
 rw [zTF] at dC
 rw [zTE] at dD
 have hp:=qXS (G:=G) _ _ mA mB rfl rfl rfl rfl
 have hl:=qIG (G:=G) _ _ mC mD rfl rfl
 rw [zTD] at hl
 have e0:orM (oV [[97]] [nV 49]).mask (oV [[98],[97]] [nV 50,nV 51]).mask=orM 0 0:=rfl
 rw [e0,zTC] at hp
 have p1:=qOH (G:=G) _ mR (by decide +kernel) (by simp [oV,nV,qAL,qBH]) (fun h=>absurd h (by decide +kernel))
 have p2:=qOH (G:=G) _ mS (by decide +kernel) (by simp [lV,nV,qAL,qBH]) (fun h=>absurd h (by decide +kernel))
 rw [zLL] at p1
 rw [zLK] at p2
 unfold sA at dA
 unfold sB at dB
 unfold sC at dC
 unfold sD at dD
 generalize oV [[97]] [nV 49]=A at *
 generalize oV [[98],[97]] [nV 50,nV 51]=B at *
 generalize oV [[97],[98]] [nV 51,nV 50]=R at *
 generalize lV [nV 49,nV 50,nV 49]=C at *
 generalize lV [nV 49]=D at *
 generalize lV [nV 50]=S at *
 simp only [Val.enc_def] at dA dB dC dD hp hl p1 p2
 refine rgn [] [[17]] ?_
 refine op1 tok ?_
 refine qA (rgn [.nilp,A.enc,.nilp,B.enc,.nilp,R.enc] [[],[],[],[],[1]] ?_)
 iterate 5 refine oq1 tok (ai dA (ai dB hp)) ?_
 refine qA (rgn [.nilp,C.enc,.nilp,D.enc,.nilp,S.enc] [[],[],[],[],[1,2]] ?_)
 iterate 5 refine oq1 tok (ai dC (ai dD hl)) ?_
 refine qA (rgn [.nilp,.str [123,34,97,34,58,51,44,34,98,34,58,50,125],.nilp,.str [91,50,93]] [[],[],[],[2,12],[],[],[],[16],[0]] ?_)
 iterate 4 refine oq1 tok (ai p1 p2) ?_
 iterate 3 refine oq2 tok (ai p1 p2) ?_
 iterate 2 refine oq1 tok (ai p1 p2) ?_
 exact qA (AW.ret qG)
end Go.Proofs.YtdojfdaglbphlaaGreatDoor
