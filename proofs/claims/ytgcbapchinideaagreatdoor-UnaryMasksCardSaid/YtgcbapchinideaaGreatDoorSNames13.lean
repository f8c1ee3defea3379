import Derived.Test.YtgcbapchinideaaGreatDoorSCallN
set_option linter.all false
namespace Go.Proofs.YtgcbapchinideaaGreatDoor
open Sy Go
set_option maxRecDepth 100000
set_option maxHeartbeats 4000000
variable {G:qT}
theorem zHP  : AFn Tryz.prog G 47 [] (.sl 1 (qIA.map PD.str)):=by
 refine AFn.introU tok Tryz.func47 (by kernel_rfl) rfl rfl ?_;simp only[Tryz.f47,qG,bA,bC];have e:qIA.map PD.str=[.str [108,101,110,103,116,104],.str [107,101,121,115],.str [110,111,116],.str [116,121,112,101],.str [115,111,114,116],.str [117,110,105,113,117,101],.str [114,101,118,101,114,115,101],.str [97,100,100],.str [109,105,110],.str [109,97,120],.str [102,108,111,111,114],.str [99,101,105,108],.str [114,111,117,110,100],.str [116,111,106,115,111,110],.str [116,111,115,116,114,105,110,103],.str [116,111,110,117,109,98,101,114],.str [97,110,121],.str [97,108,108],.str [101,110,116,114,105,101,115],.str [104,97,115],.str [116,101,115,116],.str [115,116,97,114,116,115],.str [101,110,100,115],.str [106,111,105,110],.str [115,112,108,105,116]]:=rfl;rw[e];refine rgn [] [[2]] ?_;refine op3 ?_;refine qA (rgn [.str [108,101,110,103,116,104],.str [107,101,121,115],.str [110,111,116],.str [116,121,112,101],.str [115,111,114,116],.str [117,110,105,113,117,101],.str [114,101,118,101,114,115,101],.str [97,100,100],.str [109,105,110],.str [109,97,120],.str [102,108,111,111,114],.str [99,101,105,108],.str [114,111,117,110,100],.str [116,111,106,115,111,110],.str [116,111,115,116,114,105,110,103],.str [116,111,110,117,109,98,101,114],.str [97,110,121],.str [97,108,108],.str [101,110,116,114,105,101,115],.str [104,97,115],.str [116,101,115,116],.str [115,116,97,114,116,115],.str [101,110,100,115],.str [106,111,105,110],.str [115,112,108,105,116]] [[]] ?_);refine op3 ?_;refine qJ ?_;refine qB.freeze 1 (by conv=>lhs;simp) ?_;refine qB.run [[0]] ?_;refine op3 ?_;exact qA (AW.ret qI)
theorem zUX (n:Nat) (hn:n<256):AFn Tryz.prog G 12 [.int .u8 n] (.str (xE n)):=by
 refine AFn.introU tok Tryz.func12 (by kernel_rfl) rfl rfl ?_;simp only[Tryz.f12,qG,bA,bC];have hg:=zQC n;have hnm:=zHP (G:=G);have w1:IntKind.i64.wrap (n:Int)=n:=by simp[IntKind.wrap,IntKind.bits,IntKind.signed];omega
 have w2:(n:Int).tmod 25=((n % 25:Nat):Int):=(iI n 25).symm;have h25:n % 25<25:=eQ _ (by decide);have hl:qIA.length=25:=rfl;have hg':(qIA.map PD.str)[n % 25]?=some (.str (xE n)):=by rw[bG,hg];rfl
 generalize xE n=c at *;generalize n % 25=k at *;generalize qIA=L at *;refine rgn [] [[0]] ?_;refine op3 ?_;refine qA (rgn [.nilp,.sl 1 (L.map PD.str),.str c] [[],[],[],[],[7],[],[2]] ?_);iterate 7 refine op3 ?_ (h:=by intro C;conv=>lhs;simp[w1,w2]) (hv:=by first|exact True.intro|exact hnm|exact hg'|(simp;done)|(simp;omega)|(simp[w1,w2];done)|(simp[w1,w2,hl];omega)|(simp[w1,w2,hg];done);done|omega|simp)
 exact qA (AW.ret qI)
end Go.Proofs.YtgcbapchinideaaGreatDoor
