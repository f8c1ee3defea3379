import Derived.Test.YtbhhphabggcacaaGreatDoorSPrtA
import Derived.Test.YtbhhphabggcacaaGreatDoorK1
namespace Go.Proofs.YtbhhphabggcacaaGreatDoor
open Sy Go
set_option maxRecDepth 100000
set_option maxHeartbeats 4000000
set_option linter.unusedSimpArgs false
set_option linter.unusedVariables false
variable {G:qS}
theorem qUK (x:Nd) (ks:List (List UInt8)) (hl:x.keys.length=ks.length) (hq:∀ key∈x.keys,Lib.validD key=true∧key.length≤100000) (hkl:ks.length≤1000) (hk:∀ k∈ks,k.length≤60000000) (hj:(Lib.join (vG x.keys ks) [44]).length≤1000000000) (hql:∀ key∈x.keys,(zL key).length≤1000000):AFn Tryz.prog G 25 [x.enc,.sl 1 (ks.map PD.str)] (.str (uY x ks)):=by
 refine AFn.introU tok Tryz.func25 (by kernel_rfl) rfl rfl ?_
 simp only [Tryz.f25,qN,List.map_cons,List.map_nil]
 have hM:uY x ks=[123]++Lib.join (vG x.keys ks) [44]++[125]:=rfl
 rw [hM]
 have hml:(vG x.keys ks).length=ks.length:=by simp [vG,hl]
 have hg:∀ (k:Nat) a b,x.keys[k]?=some a→ks[k]?=some b→(vG x.keys ks)[k]?=some (zL a++[58]++b):=fun k a b h1 h2=>by unfold vG; rw [List.getElem?_zipWith,h1,h2]
 generalize vG x.keys ks=L at *
 have hjn:=qZU (G:=G) L [44] (by omega) (by omega)
 generalize Lib.join L [44]=J at *
 refine rgn [] [[],[1,2]] ?_
 iterate 2 refine op1 tok ?_
 refine qA (rgn [] [[]] ?_)
 refine op1 tok ?_
 refine qA (AW.seq (rgn [] [[],[],[2,5,8,9,10]] ?_))
 iterate 3 refine op1 tok ?_
 refine qA (AW.block ?_)
 refine AW.beginE 5 50 9 1 (by simp) (by simp) (by conv=>lhs; simp) ?_
 refine AW.loop (α:=Nat) (fun k=>k≤ks.length) (fun k=>⟨wL 32 [(2,.ptr 2 0),(5,.ms 50),(8,.p (.sl 1 (ks.map PD.str))),(9,.p (.int .i64 ks.length)),(10,.p (.int .i64 k))],[],[(2,.vars 36 x.cells),(50,.row 9 1 ((L.map PD.str).take k))],0⟩) (fun k=>ks.length-k) (0) (by omega) ⟨qH (by simp),rfl,by simp,by simp⟩ ?_
 rintro k hkk
 refine rgn [] [[]] ?_
 refine op1 tok ?_
 refine qA (AW.seq (cnd ?_ ?_))
 ·intro h11
  try simp at h11
  obtain ⟨v,hv⟩:∃ v,ks[k]?=some v:=⟨ks[k]'(by omega),by simp [show k<ks.length by omega]⟩
  obtain ⟨key,hkey⟩:∃ key,x.keys[k]?=some key:=⟨x.keys[k]'(by omega),by simp [show k<x.keys.length by omega]⟩
  have hv1:=hk v (List.mem_of_getElem? hv)
  obtain ⟨hk1,hk2⟩:=hq key (List.mem_of_getElem? hkey)
  have hk3:=hql key (List.mem_of_getElem? hkey)
  have hqt:=qDZ (G:=G) key hk1 (by omega)
  have hgk:=hg k key v hkey hv
  generalize zL key=Q at *
  have hgp:(L.map PD.str)[k]?=some (PD.str (Q++58::v)):=by rw [List.getElem?_map,hgk]; simp
  have htk:(L.map PD.str).take k++[PD.str (Q++58::v)]=(L.map PD.str).take (k+1):=by rw [List.take_add_one,hgp]; rfl
  refine AW.skip (AW.seq (AW.block (rgn [.str v] [[],[],[],[],[2,5,6,7,8,9,10]] ?_)))
  iterate 5 refine op1 tok ?_ (hv:=by first | with_reducible exact True.intro | ((simp [hv]); done) | omega | simp | (simp +contextual; omega))
  refine qA (rgz [.str key,.nilp,.str Q,.str (Q++58::v)] [[],[],[],[],[2,7,8,9,10,15,19],[],[],[],[2,8,9,10,15,22,23],[],[],[2,8,9,10,26],[2,5,8,9,10]] ?_)
  iterate 13 refine op1 tok ?_ (hv:=by first | with_reducible exact True.intro | (first | exact hqt | exact hkey | (simp; done) | (simp; omega) | (simp [hkey]; done) | (simp [hkey]; omega); done) | omega | simp | (simp +contextual; omega))
  refine qA (rgz [] [[],[2,5,8,9,10]] ?_)
  iterate 2 refine op1 tok ?_
  refine qA ?_
  exact ⟨k+1,by omega,by omega,qH (by simp [htk]),rfl,by simp [htk],by simp [htk]⟩
 intro h11
 try simp at h11
 obtain rfl:k=ks.length:=by omega
 have hall:(L.map PD.str).take ks.length=L.map PD.str:=List.take_of_length_le (by simp [hml])
 simp only [hall]
 refine AW.exit ?_
 simp
 refine rgn [.nilp,.str J] [[]] ?_
 refine oq1 tok hjn ?_
 refine qD ?_
 refine qB.freeze 50 (by conv=>lhs; simp) ?_
 refine qB.run [[],[],[31],[4]] ?_
 iterate 4 refine oq1 tok hjn ?_
 exact qA (AW.ret qX)
end Go.Proofs.YtbhhphabggcacaaGreatDoor
