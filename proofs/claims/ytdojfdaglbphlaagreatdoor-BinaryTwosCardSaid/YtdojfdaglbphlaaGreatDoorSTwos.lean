import Derived.Test.YtdojfdaglbphlaaGreatDoorSRef14D
import Derived.Test.YtdojfdaglbphlaaGreatDoorSMasks14
namespace Go.Proofs.YtdojfdaglbphlaaGreatDoor
open Sy Go
set_option maxRecDepth 100000
set_option maxHeartbeats 4000000
set_option linter.unusedSimpArgs false
set_option linter.unusedVariables false
variable {G:qR}
theorem qRO (l m:List Item) (n:Nat) (hl:∀ x∈l,x.keys.length≤140737488351232) (hm:∀ x∈m,x.keys.length≤140737488351232) (hn:n<256):AFn Tryz.prog G 3 [.sl 6 (l.map Item.enc),.sl 6 (m.map Item.enc),.int .u8 n] (.bool true):=by
 refine AFn.introU tok Tryz.func3 (by kernel_rfl) rfl rfl ?_
 simp only [Tryz.f3,qI,List.map_cons,List.map_nil]
 have hsh:=zCG (G:=G)
 have hbl:=zBO (G:=G) l hl
 have hbm:=zBO (G:=G) m hm
 have ma:=qUF l
 have mb:=qUF m
 have hop:=zYL (G:=G) n hn
 have hin:opN n∈qYY:=List.mem_of_getElem? (zEV n)
 generalize qCK l=a at *
 generalize qCK m=b at *
 generalize opN n=op at *
 have h2:=zSY (G:=G) op a b ma mb
 have h3:=zKU (G:=G) op a b ma mb hin
 have hx:=zQS op ma mb
 have sx:=zCK (G:=G) (qVT op a b) hx (qVT op a b)
 rw [zHN] at sx
 generalize qVT op a b=x at *
 simp only [Val.enc_def,Item.enc] at hbl hbm h2 h3 sx
 refine rgn [] [[0,1,2]] ?_
 refine op1 tok ?_
 refine qA (rgn [.nilp,.bool true] [[],[0,1,2,7]] ?_)
 iterate 2 refine oq1 tok hsh ?_
 refine qA (rgn [.nilp,a.enc] [[],[],[],[1,2,7,8]] ?_)
 iterate 4 refine op1 tok ?_ (hv:=by first | with_reducible exact True.intro | ((simp at hbl ⊢; exact hbl); done) | omega | simp | (simp +contextual; omega))
 refine qA (rgn [.nilp,b.enc] [[],[],[],[2,7,8,9]] ?_)
 iterate 4 refine op1 tok ?_ (hv:=by first | with_reducible exact True.intro | ((simp at hbm ⊢; exact hbm); done) | omega | simp | (simp +contextual; omega))
 refine qA ?_
 refine AW.seqDrawS tok mixed 14 [[7],[15],[2,16],[17,16],[8,16],[9,16],[18,19,20,16],[2,16],[22,16],[8,16],[9,16],[23,24,25,16],[21,26,16],[16,27]] [.nilp,.str op,.nilp,x.enc,.nilp,.str op,.nilp,x.enc,.nilp,.bool true] [] (by kernel_rfl) ?_
 iterate 2 refine d1 ?_ (hv:=by first | with_reducible exact True.intro | (first | exact fun _=>hop | exact fun _=>h2 | exact fun _=>h3 | exact fun _=>sx | exact hop | exact h2 | exact h3 | exact sx | (exact fun h=>⟨h,hop⟩) | (simp; done); done) | omega | simp | (simp +contextual; omega))
 iterate 11 refine d2 16 rfl rfl ?_ (hv:=by first | with_reducible exact True.intro | (first | exact fun _=>hop | exact fun _=>h2 | exact fun _=>h3 | exact fun _=>sx | exact hop | exact h2 | exact h3 | exact sx | (exact fun h=>⟨h,hop⟩) | (simp; done); done) | omega | simp | (simp +contextual; omega))
 refine d1 ?_ (hv:=by first | with_reducible exact True.intro | (first | exact fun _=>hop | exact fun _=>h2 | exact fun _=>h3 | exact fun _=>sx | exact hop | exact h2 | exact h3 | exact sx | (exact fun h=>⟨h,hop⟩) | (simp; done); done) | omega | simp | (simp +contextual; omega))
 refine DGo.nil (by kernel_rfl) ⟨by kernel_rfl, ?_⟩
 refine qC.run [[6]] ?_
 refine op1 tok ?_
 exact qA (AW.ret qG)
end Go.Proofs.YtdojfdaglbphlaaGreatDoor
