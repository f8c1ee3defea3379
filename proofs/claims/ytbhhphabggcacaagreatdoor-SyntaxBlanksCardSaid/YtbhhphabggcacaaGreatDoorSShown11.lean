import Derived.Test.YtbhhphabggcacaaGreatDoorSPrtC
import Derived.Test.YtbhhphabggcacaaGreatDoorSSynT
import Derived.Test.YtbhhphabggcacaaGreatDoorK1
namespace Go.Proofs.YtbhhphabggcacaaGreatDoor
open Sy Go
set_option maxRecDepth 100000
set_option maxHeartbeats 4000000
set_option linter.unusedSimpArgs false
set_option linter.unusedVariables false
variable {G:qS}
def exL:List Nd:=[⟨1,0,[],⟨false,[],0⟩,[],[]⟩,⟨4,0,[97],⟨false,[],0⟩,[],[0]⟩,⟨2,4,[],⟨false,[49],0⟩,[],[]⟩,⟨8,0,[],⟨false,[],0⟩,[],[1,2]⟩]
theorem zKX:yG [46,97,44,32,49]=(exL,0):=by decide +kernel
theorem zFE (hI:∀ n:Int,AFn Tryz.prog G 29 [.int .i64 n] (.str (Lib.itoa n))):AFn Tryz.prog G 8 [.sl 8 (exL.map Nd.enc)] (.str [40,40,46,41,46,34,97,34,32,44,32,49,41]):=by
 have w0:AFn Tryz.prog G 13 [.sl 8 (exL.map Nd.enc),.int .i64 (0:Nat)] (.str [46]):=by
  have:=qGA (G:=G) exL 0 ⟨1,0,[],⟨false,[],0⟩,[],[]⟩ [] rfl
   ⟨rfl,by simp,fun h=>absurd h (by decide),fun h=>absurd h (by decide),fun h=>absurd h (by decide),fun h=>absurd h (by decide),fun h=>absurd rfl h,fun h=>absurd h (by decide),fun h=>absurd h (by decide),by simp⟩
   (fun i k t h=>by simp at h)
  exact this
 have w2:AFn Tryz.prog G 13 [.sl 8 (exL.map Nd.enc),.int .i64 (2:Nat)] (.str [49]):=by
  have hc:qBB ⟨2,4,[],⟨false,[49],0⟩,[],[]⟩=[49]:=by decide +kernel
  have:=qGA (G:=G) exL 2 ⟨2,4,[],⟨false,[49],0⟩,[],[]⟩ [] rfl
   ⟨rfl,by simp,fun _=>qQC _ (fun _=>by decide +kernel) (by decide +kernel) (by simp),fun h=>absurd h (by decide),fun h=>absurd h (by decide),fun h=>absurd h (by decide),fun _ h=>absurd rfl h,fun h=>absurd h (by decide),fun h=>absurd h (by decide),by simp⟩
   (fun i k t h=>by simp at h)
  rw [show wP ⟨2,4,[],⟨false,[49],0⟩,[],[]⟩ []=[49] by decide +kernel] at this
  exact this
 have w1:AFn Tryz.prog G 13 [.sl 8 (exL.map Nd.enc),.int .i64 (1:Nat)] (.str [40,46,41,46,34,97,34]):=by
  have:=qGA (G:=G) exL 1 ⟨4,0,[97],⟨false,[],0⟩,[],[0]⟩ [[46]] rfl
   ⟨rfl,by simp,fun h=>absurd h (by decide),fun h=>absurd h (by decide),fun h=>absurd h (by decide),fun h=>absurd h (by decide),
    fun _ _ _ _ _ _=>⟨qQZ _ hI (by simp) (by simp) (by simp),qNA _ _ (by decide +kernel) (by decide +kernel) (by decide +kernel) (by simp) (by decide +kernel),by decide +kernel⟩,
    fun _=>⟨qDZ _ (by decide +kernel) (by simp),by decide +kernel⟩,fun h=>absurd h (by decide),by simp⟩
   (fun i k t h1 h2=>by
    match i with
    | 0=>simp at h1 h2; subst h1; subst h2; exact w0
    | i+1=>simp at h1)
  rw [show wP ⟨4,0,[97],⟨false,[],0⟩,[],[0]⟩ [[46]]=[40,46,41,46,34,97,34] by decide +kernel] at this
  exact this
 have w3:AFn Tryz.prog G 13 [.sl 8 (exL.map Nd.enc),.int .i64 (3:Nat)] (.str [40,40,46,41,46,34,97,34,32,44,32,49,41]):=by
  have:=qGA (G:=G) exL 3 ⟨8,0,[],⟨false,[],0⟩,[],[1,2]⟩ [[40,46,41,46,34,97,34],[49]] rfl
   ⟨rfl,by simp,fun h=>absurd h (by decide),fun h=>absurd h (by decide),fun h=>absurd h (by decide),fun h=>absurd h (by decide),
    fun _ _ _ _ _ _=>⟨qQZ _ hI (by simp) (by simp) (by simp),qNA _ _ (by decide +kernel) (by decide +kernel) (by decide +kernel) (by simp) (by decide +kernel),by decide +kernel⟩,
    fun h=>absurd h (by decide),fun h=>absurd h (by decide),by simp⟩
   (fun i k t h1 h2=>by
    match i with
    | 0=>simp at h1 h2; subst h1; subst h2; exact w1
    | 1=>simp at h1 h2; subst h1; subst h2; exact w2
    | i+2=>simp at h1)
  rw [show wP ⟨8,0,[],⟨false,[],0⟩,[],[1,2]⟩ [[40,46,41,46,34,97,34],[49]]=[40,40,46,41,46,34,97,34,32,44,32,49,41] by decide +kernel] at this
  exact this
 exact qJI exL _ (by decide) (by decide) w3
theorem qLL (hG:U8 G) (hE:PE G) (hI:∀ n:Int,AFn Tryz.prog G 29 [.int .i64 n] (.str (Lib.itoa n))):AFn Tryz.prog G 6 [] (.bool true):=by
 refine AFn.introU tok Tryz.func6 (by kernel_rfl) rfl rfl ?_
 simp only [Tryz.f6,qN,List.map_cons,List.map_nil]
 have h1:=qAJ (G:=G) hG hE [46,97,44,32,49]
 rw [zKX] at h1
 have h2:=zFE (G:=G) hI
 have hl:(exL.map Nd.enc).length=4:=rfl
 simp only at h1
 generalize exL.map Nd.enc=LE at *
 refine rgn [] [[19]] ?_
 refine op1 tok ?_
 refine qA (rgn [.nilp,.tup [.sl 8 LE,.int .i64 0]] [[],[],[],[],[],[1,2]] ?_)
 iterate 6 refine oq1 tok h1 ?_
 refine qA (rgn [.nilp,.str [40,40,46,41,46,34,97,34,32,44,32,49,41]] [[],[],[],[],[1,9,11],[],[],[1,14],[],[],[],[18],[0]] ?_)
 iterate 13 first | refine op1 tok ?_ (h:=by intro C; conv=>lhs; simp [hl]) (hv:=by first | with_reducible exact True.intro | (first | exact h2 | (simp [hl]; exact h2); done) | omega | simp | (simp +contextual; omega)) | refine op2 tok ?_ (h:=by intro C; conv=>lhs; simp [hl]) (hv:=by first | with_reducible exact True.intro | (first | exact h2 | (simp [hl]; exact h2); done) | omega | simp | (simp +contextual; omega))
 exact qA (AW.ret qX)
end Go.Proofs.YtbhhphabggcacaaGreatDoor
