import Derived.Test.YtgcbapchinideaaGreatDoorK2
import Derived.Test.YtgcbapchinideaaGreatDoorK5
import Derived.Test.YtgcbapchinideaaGreatDoorSListsU
set_option linter.all false
namespace Go.Proofs.YtgcbapchinideaaGreatDoor
open Sy Go
set_option maxRecDepth 100000
set_option maxHeartbeats 4000000
variable {G:qT}
def qYT (s a:List UInt8):Bool:=decide (a.length<=s.length) && decide (s.drop (s.length-a.length)=a)
theorem zXN (s a:List UInt8) (hs:s.length<=1000000) (ha:a.length<=1000000):AFn Tryz.prog G 104 [.str s,.str a] (.bool (qYT s a)):=by
 refine AFn.introU tok Tryz.func104 (by kernel_rfl) rfl rfl ?_;simp only[Tryz.f104,qG,bA,bC];refine rgn [] [[0,1]] ?_;refine op3 ?_;refine qA (rgn [] [[],[],[],[],[0,1,9],[],[],[],[],[],[1,10,11,13,15],[],[1,10,17],[],[],[20],[4]] ?_);iterate 6 refine op3 ?_
 iterate 9 refine op4 ?_
 iterate 2 refine op3 ?_
 refine qA ?_;exact AW.ret (qI (k:=by simp[qYT]))
theorem wDG (s a:List UInt8) (hs:s.length<=1000000) (ha:a.length<=1000000):AFn Tryz.prog G 73 [.str s,.str a] (.bool (qYT s a)):=by
 refine AFn.introU tok Tryz.func73 (by kernel_rfl) rfl rfl ?_;simp only[Tryz.f73,qG,bA,bC];have h:=zXN (G:=G) s a hs ha;refine rgn [] [[0,1]] ?_;refine op3 ?_;refine qA (rgn [.nilp,.bool (qYT s a)] [[],[],[7],[4]] ?_);iterate 4 refine oq1 tok h ?_
 exact qA (AW.ret qI)
def qSW:List (List UInt8):=[[112,111,105,115,111,110],[110,117,108,108],[98,111,111,108,101,97,110],[98,111,111,108,101,97,110],[110,117,109,98,101,114],[115,116,114,105,110,103],[97,114,114,97,121],[111,98,106,101,99,116],[112,111,105,115,111,110]]
def qPJ (k:Int):Nat:=(if(if 8<k then 8 else k) > 0 then(if 8<k then 8 else k) else 0).toNat
def qWL (k:Int):List UInt8:=qSW.getD (qPJ k) []
theorem zEH (k:Int):qPJ k<9:=by unfold qPJ;split <;> split <;> omega
theorem zXW (j:Nat) (h:j<9):(qSW.map PD.str)[j]?=some (.str (qSW.getD j [])):=by
 rw[bG,bJ,cI (by exact h)];rfl
theorem zXV (k:Int):AFn Tryz.prog G 37 [.int .i64 k] (.str (qWL k)):=by
 refine AFn.introU tok Tryz.func37 (by kernel_rfl) rfl rfl ?_;simp only[Tryz.f37,qG,bA,bC];have hk:=zEH k;have ha:=zXW (qPJ k) hk;have hz:(if(if 8<k then 8 else k) > 0 then(if 8<k then 8 else k) else 0)=((qPJ k:Nat):Int):=by unfold qPJ;split <;> split <;> omega
 have hn:qWL k=qSW.getD (qPJ k) []:=rfl;rw[hn];refine rgn [] [[0]] ?_;refine op3 ?_;refine qA ?_;refine lB [] ?_;refine qB.stepK [0,3] (zBN tok [.const (.string [112,111,105,115,111,110].toByteArray),.const (.string [110,117,108,108].toByteArray),.const (.string [98,111,111,108,101,97,110].toByteArray),.const (.string [98,111,111,108,101,97,110].toByteArray),.const (.string [110,117,109,98,101,114].toByteArray),.const (.string [115,116,114,105,110,103].toByteArray),.const (.string [97,114,114,97,121].toByteArray),.const (.string [111,98,106,101,99,116].toByteArray),.const (.string [112,111,105,115,111,110].toByteArray)] [.p (.str [112,111,105,115,111,110]),.p (.str [110,117,108,108]),.p (.str [98,111,111,108,101,97,110]),.p (.str [98,111,111,108,101,97,110]),.p (.str [110,117,109,98,101,114]),.p (.str [115,116,114,105,110,103]),.p (.str [97,114,114,97,121]),.p (.str [111,98,106,101,99,116]),.p (.str [112,111,105,115,111,110])] rfl rfl rfl rfl rfl rfl rfl rfl rfl (fun k x y h1 h2=>by rcases k with _|_|_|_|_|_|_|_|_|k <;> simp at h1 h2 <;> subst h1 <;> subst h2 <;> exact⟨by conv=>lhs;simp,rfl⟩)) (by conv=>lhs;simp) rfl ?_;refine qB.run [[]] ?_;refine op3 ?_;refine qJ ?_;refine qB.stepK [3,5] (wAV rfl (by conv=>lhs;simp) trivial (by conv=>lhs;simp) trivial) (by conv=>lhs;simp) rfl ?_;refine qB.stepK [3,6] (wAW rfl (by conv=>lhs;simp) trivial (by conv=>lhs;simp) trivial) (by conv=>lhs;simp) rfl ?_;refine qB.stepK [7] (zQZ tok (cs:=[.str [112,111,105,115,111,110],.str [110,117,108,108],.str [98,111,111,108,101,97,110],.str [98,111,111,108,101,97,110],.str [110,117,109,98,101,114],.str [115,116,114,105,110,103],.str [97,114,114,97,121],.str [111,98,106,101,99,116],.str [112,111,105,115,111,110]]) rfl rfl rfl rfl rfl (by conv=>lhs;simp) trivial (by conv=>lhs;simp) trivial (qPJ k) hz hk ha) (by conv=>lhs;simp) rfl ?_;refine qB.run [[2]] ?_;refine op3 ?_;exact qA (AW.ret qI)
def jE (l:List Val) (call:List UInt8) (m:Int):Val:=if(l.any fun v=>decide (v.kind=8))=true then qR 40 m else yH (decide ((l.any fun v=>decide ((jF v).1=decide (call=[97,110,121])))=decide (call=[97,110,121]))) m
theorem zWY (v:Val):AFn Tryz.prog G 133 [v.enc] (.bool (decide (v.kind=8))):=by
 refine AFn.introU tok Tryz.func133 (by kernel_rfl) rfl rfl ?_;simp only[Tryz.f133,qG,bA,bC];refine rgn [] [[],[1]] ?_;iterate 2 refine op3 ?_
 refine qA (rgn [] [[],[],[],[2]] ?_);iterate 4 refine op3 ?_
 exact qA (AW.ret qI)
theorem zWX (w:Bool) (v:Val):AFn Tryz.prog G 134 [v.enc,.ref [.bool w]] (.bool (decide ((jF v).1=w))):=by
 refine AFn.introU tok Tryz.func134 (by kernel_rfl) rfl rfl ?_;simp only[Tryz.f134,qG,bA,bC];have ht:=qVP (G:=G) v;generalize jF v=tk at *;simp only[iK]at ht;refine rgn [] [[],[1,2]] ?_;iterate 2 refine op3 ?_
 refine qA (rgn [.nilp,.tup [.bool tk.1,.bool tk.2]] [[],[],[],[],[1,9,10],[],[1,4]] ?_);iterate 7 refine op3 ?_ (hv:=by first|exact True.intro|exact ht|(simp at ht ⊢; exact ht);done|omega|simp)
 refine qA (rgn [] [[],[],[13],[3]] ?_);iterate 4 refine op3 ?_
 refine qA ?_;exact AW.ret (qI (k:=by simp;cases tk.1 <;> cases w <;> rfl))
theorem zHT (l:List Val) (call:List UInt8) (m:Int):AFn Tryz.prog G 90 [.agg [.int .u64 m],.sl 9 (l.map Val.enc),.str call] ((jE l call m).enc):=by
 refine AFn.introU tok Tryz.func90 (by kernel_rfl) rfl rfl ?_;simp only[Tryz.f90,qG,bA,bC];have c1:=qML (G:=G) l 133 (fun v=>decide (v.kind=8)) (fun v _=>zWY v);have c2:=qJO (G:=G) l 134 [.bool (decide (call=[97,110,121]))] (fun v=>decide ((jF v).1=decide (call=[97,110,121]))) (fun v _=>zWX _ v);have hf:=zX (G:=G) 40 m;have ht:=fun b=>qBW (G:=G) b m;have e:jE l call m=if(l.any fun v=>decide (v.kind=8))=true then qR 40 m else yH (decide ((l.any fun v=>decide ((jF v).1=decide (call=[97,110,121])))=decide (call=[97,110,121]))) m:=rfl
 rw[e];clear e
 generalize (l.any fun v=>decide (v.kind=8))=b1 at *;generalize (l.any fun v=>decide ((jF v).1=decide (call=[97,110,121])))=b2 at *;simp only[iK]at hf ht;refine rgn [] [[],[1,2,3,6]] ?_;iterate 2 refine op3 ?_
 refine qA (AW.seq (rgn [.nilp,.bool b1] [[],[1,2,3,6,10]] ?_));iterate 2 refine op3 ?_ (hv:=by first|exact True.intro|exact c1|(simp;exact c1);done|omega|simp)
 refine qA (cnd ?_ ?_)
 ·intro h10;try simp at h10
  rw[bE h10];refine rgn [.nilp,(qR 40 m).enc] [[],[],[6]] ?_;iterate 3 refine oq1 tok hf ?_
  exact qA (AW.ret qI)
 intro h10;try simp at h10
 rw[bD (by simp[h10])];have ht:=ht (decide (b2=decide (call=[97,110,121])));generalize yH (decide (b2=decide (call=[97,110,121]))) m=X at *;refine AW.skip (rgn [] [[],[],[],[1,3,6,7]] ?_);iterate 4 refine op3 ?_
 refine qA (rgn [.nilp,.bool b2] [[],[]] ?_);iterate 2 refine op3 ?_ (hv:=by first|exact True.intro|exact c2|(simp;exact c2);done|omega|simp)
 refine qJ ?_;refine qB.freezeV 7 (by conv=>lhs;simp) ?_;refine qB.run [[],[3,6,7,8]] ?_;iterate 2 refine op3 ?_ (hv:=by first|exact True.intro|exact c2|(simp;exact c2);done|omega|simp)
 refine qA (rgn [.nilp,X.enc] [[],[],[],[6,18,21],[],[6]] ?_);iterate 6 refine op3 ?_ (hv:=by first|exact True.intro|exact ht|(simp;exact ht)|(simp at ht ⊢; exact ht);done|omega|simp)
 exact qA (AW.ret qI)
theorem qPF (call arg:List UInt8) (v:Val) (m:Int) (hc:call=[97,110,121]\/call=[97,108,108]) (hn:v.kids.length<=1000000):AFn Tryz.prog G 46 [.agg [.int .u64 m],.str call,.str arg,v.enc] ((if v.kind=6 then jE v.kids call m else qR 40 m).enc):=by
 refine AFn.introU tok Tryz.func46 (by kernel_rfl) rfl rfl ?_;simp only[Tryz.f46,qG,bA,bC];have hf:=zX (G:=G) 40 m;have hcl:=xT (G:=G) v.kids (by omega);have ht:=zHT (G:=G) v.kids call m;generalize jE v.kids call m=W at *;simp only[iK]at hf ht;refine rgn [] [[],[],[1,2,4,7,8]] ?_;iterate 3 refine op3 ?_
 refine qA (AW.seq (rgn [] [[],[],[1,2,4,7,8,12]] ?_));iterate 3 refine op3 ?_
 refine qA (cnd ?_ ?_)
 ·intro h12;try simp at h12
  rw[bD (by simpa using h12)];refine rgn [.nilp,(qR 40 m).enc] [[],[],[8]] ?_;iterate 3 refine oq1 tok hf ?_
  exact qA (AW.ret qI)
 intro h12;try simp at h12
 rw[bE (by simpa using h12)];refine AW.skip (rgn [.nilf,.sl 9 (v.kids.map Val.enc),.clo 31 []] [[],[],[],[1,2,4,8,9]] ?_);iterate 4 refine oq1 tok hcl ?_
 refine qA (AW.seq (rgn [] [[]] ?_));refine op3 ?_;refine qA (AW.block (rgn [] [[],[1,2,4,8,9,18,19]] ?_));iterate 2 refine op3 ?_
 refine qA (cnd ?_ ?_)
 ·intro h19;try simp at h19
  (rcases hc with rfl|rfl <;> simp at h19)
 intro h19;try simp at h19
 refine rgn [] [[],[1,2,4,8,9,18,26]] ?_;iterate 2 refine op3 ?_
 refine qA (cnd ?_ ?_)
 ·intro h26;try simp at h26
  (rcases hc with rfl|rfl <;> simp at h26)
 intro h26;try simp at h26
 refine rgn [] [[],[1,2,4,8,9,18,34]] ?_;iterate 2 refine op3 ?_
 refine qA (cnd ?_ ?_)
 ·intro h34;try simp at h34
  (rcases hc with rfl|rfl <;> simp at h34)
 intro h34;try simp at h34
 refine rgn [] [[],[1,2,4,8,9,18,39]] ?_;iterate 2 refine op3 ?_
 refine qA (cnd ?_ ?_)
 ·intro h39;try simp at h39
  (rcases hc with rfl|rfl <;> simp at h39)
 intro h39;try simp at h39
 refine rgn [] [[],[1,2,4,8,9,18,44]] ?_;iterate 2 refine op3 ?_
 refine qA (cnd ?_ ?_)
 ·intro h44;try simp at h44
  (rcases hc with rfl|rfl <;> simp at h44)
 intro h44;try simp at h44
 refine AW.seq (rgn [] [[],[1,2,4,8,9,18,49]] ?_);iterate 2 refine op3 ?_
 refine qA (cnd ?_ ?_)
 ·intro h49;try simp at h49
  refine AW.skip (cnd ?_ ?_)
  ·intro h49;try simp at h49
   refine lD 17 (by conv=>lhs;simp) ?_;refine rgn [.nilp,W.enc] [[],[],[],[8,55],[8]] ?_;iterate 5 refine oq1 tok ht ?_
   exact qA (AW.ret qI)
  intro h49;try simp at h49
  contradiction
 intro h49;try simp at h49
 refine rgz [] [[],[1,2,4,8,9,49]] ?_;iterate 2 refine op3 ?_
 refine qA (cnd ?_ ?_)
 ·intro h49;try simp at h49
  refine lD 17 (by conv=>lhs;simp) ?_;refine rgn [.nilp,W.enc] [[],[],[],[8,55],[8]] ?_;iterate 5 refine oq1 tok ht ?_
  exact qA (AW.ret qI)
 intro h49;try simp at h49
 (rcases hc with h|h <;> contradiction)
def qOV (re t:List UInt8) (m:Int):Val:=if(xV re t).2.2=0 then yH (qVS re t) m else qR (xV re t).2.2 m
theorem zSZ (re:List UInt8) (v:Val) (m:Int) (hl:re.length<=1000000) (ht:v.text.length<=10000):AFn Tryz.prog G 42 [.agg [.int .u64 m],.str [116,101,115,116],.str re,v.enc] ((if v.kind=5 then qOV re v.text m else qR 40 m).enc):=by
 refine AFn.introU tok Tryz.func42 (by kernel_rfl) rfl rfl ?_;simp only[Tryz.f42,qG,bA,bC];have hf:=zX (G:=G) 40 m;have hf2:=zX (G:=G) (xV re v.text).2.2 m;have c1:=zZQ (G:=G) re v.text hl ht;have hx:=qBW (G:=G) (qVS re v.text) m;have e:qOV re v.text m=if(xV re v.text).2.2=0 then yH (qVS re v.text) m else qR (xV re v.text).2.2 m:=rfl
 rw[e];clear e
 generalize (xV re v.text).2.2=e at *;generalize qVS re v.text=b at *;generalize yH b m=X at *;simp only[iK]at hf hf2 hx;refine rgn [] [[],[],[1,2,4,7,8]] ?_;iterate 3 refine op3 ?_
 refine qA (AW.seq (rgn [] [[],[],[1,2,4,7,8,13]] ?_));iterate 3 refine op3 ?_
 refine qA (cnd ?_ ?_)
 ·intro h13;try simp at h13
  rw[bD (by simpa using h13)];refine rgn [.nilp,(qR 40 m).enc] [[],[],[8]] ?_;iterate 3 refine oq1 tok hf ?_
  exact qA (AW.ret qI)
 intro h13;try simp at h13
 rw[bE (by simpa using h13)];refine AW.skip (AW.seq (rgn [] [[2,4,7,8,16]] ?_));refine op3 ?_;refine qA (AW.block (rgn [] [[],[2,4,7,8,16,17]] ?_));iterate 2 refine op3 ?_
 refine qA (cnd ?_ ?_)
 ·intro h17;try simp at h17
  refine rgn [.nilp,.tup [.bool b,.int .i64 e]] [[],[],[],[4,8,23],[],[],[],[],[4,8,9,10]] ?_;iterate 9 refine oq1 tok c1 ?_
  refine qA (AW.seq (rgn [] [[],[4,8,9,10,27]] ?_));iterate 2 refine op3 ?_
  refine qA (cnd ?_ ?_)
  ·intro h27;try simp at h27
   rw[bD (by simpa using h27)];refine rgn [.nilp,(qR e m).enc] [[],[],[8,30],[8]] ?_;iterate 4 refine op3 ?_ (hv:=by first|exact True.intro|exact hf2|(simp at hf2 ⊢; exact hf2);done|omega|simp)
   exact qA (AW.ret qI)
  intro h27;try simp at h27
  rw[bE (by simpa using h27)];refine AW.skip (rgn [.nilp,X.enc] [[],[],[8,33],[8]] ?_);iterate 4 refine oq1 tok hx ?_
  exact qA (AW.ret qI)
 intro h17;try simp at h17
theorem zOT (a:List UInt8) (v:Val) (m:Int):AFn Tryz.prog G 42 [.agg [.int .u64 m],.str [115,116,97,114,116,115],.str a,v.enc] ((if v.kind=5 then yH (kG v.text a) m else qR 40 m).enc):=by
 refine AFn.introU tok Tryz.func42 (by kernel_rfl) rfl rfl ?_;simp only[Tryz.f42,qG,bA,bC];have hf:=zX (G:=G) 40 m;have hp:=zBI (G:=G) v.text a;have ht:=qBW (G:=G) (kG v.text a) m;generalize kG v.text a=b at *;generalize yH b m=T at *;simp only[iK]at hf ht;refine rgn [] [[],[],[1,2,4,7,8]] ?_;iterate 3 refine op3 ?_
 refine qA (AW.seq (rgn [] [[],[],[1,2,4,7,8,13]] ?_));iterate 3 refine op3 ?_
 refine qA (cnd ?_ ?_)
 ·intro h13;try simp at h13
  rw[bD (by simpa using h13)];refine rgn [.nilp,(qR 40 m).enc] [[],[],[8]] ?_;iterate 3 refine oq1 tok hf ?_
  exact qA (AW.ret qI)
 intro h13;try simp at h13
 rw[bE (by simpa using h13)];refine AW.skip (AW.seq (rgn [] [[2,4,7,8,16]] ?_));refine op3 ?_;refine qA (AW.block (rgn [] [[],[2,4,7,8,16,17]] ?_));iterate 2 refine op3 ?_
 refine qA (cnd ?_ ?_)
 ·intro h17;try simp at h17
 intro h17;try simp at h17
 refine rgn [] [[],[2,4,7,8,16,34]] ?_;iterate 2 refine op3 ?_
 refine qA (cnd ?_ ?_)
 ·intro h34;try simp at h34
  refine iL tok mixed [8] 6 [[4],[7],[37],[2],[38,39],[36,40]] [.nilp,.bool b,.nilp,T.enc] [] (by kernel_rfl) (by intro C;conv=>lhs;simp) (by first|exact⟨hp,ht⟩|(simp at hp ht ⊢; exact⟨hp,ht⟩)) (by simp[Sm.sum,Sm.foot,Sm.tch,Sm.refs];kernel_rfl) (by intro C;conv=>lhs;simp) (by first|exact True.intro|omega|simp) ?_;exact AW.ret qI
 intro h34;try simp at h34
theorem zYC (a:List UInt8) (v:Val) (m:Int) (hs:v.text.length<=1000000) (ha:a.length<=1000000):AFn Tryz.prog G 42 [.agg [.int .u64 m],.str [101,110,100,115],.str a,v.enc] ((if v.kind=5 then yH (qYT v.text a) m else qR 40 m).enc):=by
 refine AFn.introU tok Tryz.func42 (by kernel_rfl) rfl rfl ?_;simp only[Tryz.f42,qG,bA,bC];have hf:=zX (G:=G) 40 m;have hp:=wDG (G:=G) v.text a hs ha;have ht:=qBW (G:=G) (qYT v.text a) m;generalize qYT v.text a=b at *;generalize yH b m=T at *;simp only[iK]at hf ht;refine rgn [] [[],[],[1,2,4,7,8]] ?_;iterate 3 refine op3 ?_
 refine qA (AW.seq (rgn [] [[],[],[1,2,4,7,8,13]] ?_));iterate 3 refine op3 ?_
 refine qA (cnd ?_ ?_)
 ·intro h13;try simp at h13
  rw[bD (by simpa using h13)];refine rgn [.nilp,(qR 40 m).enc] [[],[],[8]] ?_;iterate 3 refine oq1 tok hf ?_
  exact qA (AW.ret qI)
 intro h13;try simp at h13
 rw[bE (by simpa using h13)];refine AW.skip (AW.seq (rgn [] [[2,4,7,8,16]] ?_));refine op3 ?_;refine qA (AW.block (rgn [] [[],[2,4,7,8,16,17]] ?_));iterate 2 refine op3 ?_
 refine qA (cnd ?_ ?_)
 ·intro h17;try simp at h17
 intro h17;try simp at h17
 refine rgn [] [[],[2,4,7,8,16,34]] ?_;iterate 2 refine op3 ?_
 refine qA (cnd ?_ ?_)
 ·intro h34;try simp at h34
 intro h34;try simp at h34
 refine rgn [] [[],[2,4,7,8,16,42]] ?_;iterate 2 refine op3 ?_
 refine qA (cnd ?_ ?_)
 ·intro h42;try simp at h42
  refine iL tok mixed [8] 6 [[4],[7],[45],[2],[46,47],[44,48]] [.nilp,.bool b,.nilp,T.enc] [] (by kernel_rfl) (by intro C;conv=>lhs;simp) (by first|exact⟨hp,ht⟩|(simp at hp ht ⊢; exact⟨hp,ht⟩)) (by simp[Sm.sum,Sm.foot,Sm.tch,Sm.refs];kernel_rfl) (by intro C;conv=>lhs;simp) (by first|exact True.intro|omega|simp) ?_;exact AW.ret qI
 intro h42;try simp at h42
end Go.Proofs.YtgcbapchinideaaGreatDoor
