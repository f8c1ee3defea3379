import Derived.Test.YtgcbapchinideaaGreatDoorK3
set_option linter.all false
namespace Go.Proofs.YtgcbapchinideaaGreatDoor
open Sy Go
set_option maxRecDepth 100000
set_option maxHeartbeats 4000000
variable {G:qT}
theorem zHO {v:Val} (h:yD v=false\/yT v=false\/∃ k∈v.kids,qU k=false):qU v=false:=by
 rw[yB];rcases h with h|h|⟨k,hk,h⟩
 ·rw[h];rfl
 ·rw[h];simp
 rw[List.all_eq_false.2 ⟨k,hk,by simp[h]⟩];simp
theorem qZH (v:Val) (ih:∀ k∈v.kids,AFn Tryz.prog G 16 [k.enc] (.bool (qU k))):AFn Tryz.prog G 16 [v.enc] (.bool (qU v)):=by
 refine AFn.introU tok Tryz.func16 (by kernel_rfl) rfl rfl ?_;simp only[Tryz.f16,qG,bA,bC];have hd:=zDA (G:=G) v.num;have hw:=qSE (G:=G) v.text;have hk:=zHI (G:=G) v.keys;refine rgn [] [[],[1]] ?_;iterate 2 refine op3 ?_
 refine qA (AW.seq (rgn [] [[],[],[],[],[],[1,12,14],[],[],[1,17],[],[],[],[],[1,22]] ?_));iterate 14 first|refine op3 ?_|refine op4 ?_
 refine qA (cnd ?_ ?_)
 ·intro h22;try simp at h22
  have hno:qU v=false:=zHO (.inl (by simp[yD];omega));refine rgn [] [[]] ?_;refine op3 ?_;refine qA ?_;exact AW.ret (qI (k:=by simp[hno]))
 intro h22;try simp at h22
 have hb:yD v=true:=by simp[yD];omega
 refine AW.skip (rgn [] [[],[],[],[],[1,3]] ?_);iterate 5 refine op3 ?_
 refine qA ?_;refine AW.join (α:=Unit) (fun _=>True) (fun a=>⟨qZ 113 [(1,.ptr 1 0),(3,.p (.bool (qBI v)))],[],[(1,.vars 31 v.cells)],0⟩) ?_ ?_
 ·
  refine rgn [] [[],[],[1,3,29]] ?_;iterate 3 refine op3 ?_
  refine qA (cnd ?_ ?_)
  ·intro h29;try simp at h29
   refine rgz [.nilp,.bool (zJ v.num)] [[],[],[],[1,3]] ?_;iterate 4 refine op3 ?_ (hv:=by first|exact True.intro|(((repeat' (first|with_reducible apply And.intro|intro _)) <;> first|exact(hd)|assumption|omega|contradiction|simp_all);done)|omega|simp)
   refine qA ?_;exact⟨(),trivial,qE (by simp[qBI,h29]),rfl,by simp[qBI,h29],by simp[qBI,h29]⟩
  intro h29;try simp at h29
  refine AW.skip ?_;exact⟨(),trivial,qE (by simp[qBI,h29]),rfl,by simp[qBI,h29],by simp[qBI,h29]⟩
 ·
  rintro a hI;refine rgn [] [[],[],[],[1,3,4]] ?_;iterate 4 refine op3 ?_
  refine qA ?_;refine AW.join (α:=Unit) (fun _=>True) (fun a=>⟨qZ 113 [(1,.ptr 1 0),(3,.p (.bool (qBI v))),(4,.p (.bool (jY v)))],[],[(1,.vars 31 v.cells)],0⟩) ?_ ?_
  ·
   refine rgn [] [[],[],[1,3,4,38]] ?_;iterate 3 refine op3 ?_
   refine qA (cnd ?_ ?_)
   ·intro h38;try simp at h38
    refine rgz [.nilp,.bool (kJ v.text)] [[],[],[],[1,3,4]] ?_;iterate 4 refine op3 ?_ (hv:=by first|exact True.intro|(((repeat' (first|with_reducible apply And.intro|intro _)) <;> first|exact(hw)|assumption|omega|contradiction|simp_all);done)|omega|simp)
    refine qA ?_;exact⟨(),trivial,qE (by simp[jY,h38]),rfl,by simp[jY,h38],by simp[jY,h38]⟩
   intro h38;try simp at h38
   refine AW.skip ?_;exact⟨(),trivial,qE (by simp[jY,h38]),rfl,by simp[jY,h38],by simp[jY,h38]⟩
  ·
   rintro a hI;refine rgn [] [[],[],[],[],[1,3,4,5]] ?_;iterate 5 refine op3 ?_
   refine qA ?_;refine AW.join (α:=Unit) (fun _=>True) (fun a=>⟨qZ 113 [(1,.ptr 1 0),(3,.p (.bool (qBI v))),(4,.p (.bool (jY v))),(5,.p (.bool (yU v)))],[],[(1,.vars 31 v.cells)],0⟩) ?_ ?_
   ·
    refine rgn [] [[],[],[1,3,4,5,48]] ?_;iterate 3 refine op3 ?_
    refine qA (cnd ?_ ?_)
    ·intro h48;try simp at h48
     refine rgz [.nilp,.bool (xU v.keys)] [[],[],[],[],[],[1,3,4,51,54],[],[],[],[1,3,4,56,58],[],[],[1,3,4,5]] ?_;iterate 8 refine op3 ?_ (hv:=by first|exact True.intro|(((repeat' (first|with_reducible apply And.intro|intro _)) <;> first|exact(hk)|assumption|omega|contradiction|simp_all);done)|omega|simp)
     iterate 3 refine op4 ?_ (hv:=by first|exact True.intro|(((repeat' (first|with_reducible apply And.intro|intro _)) <;> first|exact(hk)|assumption|omega|contradiction|simp_all);done)|omega|simp)
     iterate 2 refine op3 ?_ (hv:=by first|exact True.intro|(((repeat' (first|with_reducible apply And.intro|intro _)) <;> first|exact(hk)|assumption|omega|contradiction|simp_all);done)|omega|simp)
     refine qA ?_;exact⟨(),trivial,qE (by simp[yU,h48]),rfl,by simp[yU,h48],by simp[yU,h48]⟩
    intro h48;try simp at h48
    refine AW.skip ?_;exact⟨(),trivial,qE (by simp[yU,h48,wCE]),rfl,by simp[yU,h48,wCE],by simp[yU,h48,wCE]⟩
   ·
    rintro a hI;refine rgn [] [[],[],[],[],[1,3,4,5,65],[],[],[],[1,3,4,5,69],[],[],[],[],[1,3,4,5,74],[1,3,4,5,6]] ?_;iterate 15 first|refine op3 ?_|refine op4 ?_
    refine qA (AW.seq (rgn [] [[],[],[],[1,5,6,77,78],[],[],[1,5,6,81],[],[],[1,6,84],[],[],[],[1,88],[],[],[],[],[],[1,89,92,94],[],[],[1,97]] ?_));iterate 23 first|refine op3 ?_ (hv:=by first|exact True.intro|(grind;done)|omega|simp)|refine op4 ?_ (hv:=by first|exact True.intro|(grind;done)|omega|simp)
    refine qA (cnd ?_ ?_)
    ·intro h97;try simp at h97
     have hno:qU v=false:=zHO (.inr (.inl (by
      rw[<-iA];intro hp;simp only[yT,bI]at hp;obtain⟨⟨⟨⟨p1,p2⟩,p3⟩,p4⟩,p5⟩:=hp;simp[qBF,uS,<-List.length_eq_zero_iff]at p1 p5;simp[p2,p3,p4,p1,<-List.length_eq_zero_iff]at h97;grind)))
     refine rgn [] [[]] ?_;refine op3 ?_;refine qA ?_;exact AW.ret (qI (k:=by simp[hno]))
    intro h97;try simp at h97
    have hp:yT v=true:=by
     simp only[yT,bI,qBF,uS];grind
    refine AW.skip (AW.seq (rgn [] [[]] ?_));refine op3 ?_;refine qA (AW.block ?_);refine AW.loop (α:=Nat) (fun k=>k<=v.kids.length/\(v.kids.take k).all qU=true) (fun k=>⟨qZ 113 [(1,.ptr 1 0),(7,.p (.int .i64 k))],[],[(1,.vars 31 v.cells)],0⟩) (fun k=>v.kids.length-k) (0) ⟨by omega,rfl⟩ ⟨qE (by simp),rfl,by simp,by simp⟩ ?_;rintro k ⟨hk,hall⟩;refine AW.seq (rgn [] [[],[],[],[],[1,7,102]] ?_);iterate 5 refine op3 ?_
    refine qA (cnd ?_ ?_)
    ·intro h102;try simp at h102
     obtain⟨x,hx⟩:∃ x,v.kids[k]?=some x:=⟨v.kids[k],by simp[h102]⟩;have hix:=ih x (bH hx);refine AW.skip (AW.seq (AW.block (rgn [x.enc,.tup [x.enc],.bool (qU x)] [[],[],[],[],[1,7,109],[],[1,7,8]] ?_)));iterate 7 refine op3 ?_ (hv:=by first|exact True.intro|(simp[hx];done)|(simp at hix ⊢; exact hix);done|omega|simp)
     refine qA (rgn [] [[],[1,7,112]] ?_);iterate 2 refine op3 ?_
     refine qA (cnd ?_ ?_)
     ·intro h112;try simp at h112
      have hno:qU v=false:=zHO (.inr (.inr ⟨x,bH hx,h112⟩));refine rgn [] [[]] ?_;refine op3 ?_;refine qA ?_;exact AW.ret (qI (k:=by simp[hno]))
     intro h112;try simp at h112
     refine AW.skip (rgz [] [[],[],[1,7]] ?_);iterate 3 refine op3 ?_
     refine qA ?_;exact⟨k+1,⟨by omega,by rw[bX,hx,dJ,hall];simp[h112]⟩,by omega,qE (by simp),rfl,by simp,by simp⟩
    intro h102;try simp at h102
    rw[bK (by omega)]at hall;have hyes:qU v=true:=by rw[yB,hb,hp,hall];rfl
    refine AW.exit ?_;simp;refine rgn [] [[]] ?_;refine op3 ?_;refine qA ?_;exact AW.ret (qI (k:=by simp[hyes]))
theorem zHH (v:Val):AFn Tryz.prog G 16 [v.enc] (.bool (qU v)):=iV (fun v ih=>qZH v ih) v
end Go.Proofs.YtgcbapchinideaaGreatDoor
