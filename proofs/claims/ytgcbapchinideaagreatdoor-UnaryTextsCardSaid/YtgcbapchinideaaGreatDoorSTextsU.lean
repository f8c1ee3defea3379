import Derived.Test.YtgcbapchinideaaGreatDoorSKeysL
import Derived.Test.YtgcbapchinideaaGreatDoorSExpl
import Derived.Test.YtgcbapchinideaaGreatDoorSQuote3
import Derived.Test.YtgcbapchinideaaGreatDoorSPrintAll
import Derived.Test.YtgcbapchinideaaGreatDoorK1
namespace Go.Proofs.YtgcbapchinideaaGreatDoor
open Sy Go
set_option maxRecDepth 100000
set_option maxHeartbeats 4000000
set_option linter.unusedSimpArgs false
set_option linter.unusedVariables false
variable {G:qJ}
theorem qUU (s:List UInt8) (hs:s.length≤1000000):AFn Tryz.prog G 65 [.str s] (.int .i64 (Lib.runeCountL s)):=by
 refine AFn.introU tok Tryz.func65 (by kernel_rfl) rfl rfl ?_
 simp only [Tryz.f65,qK,List.map_cons,List.map_nil]
 have h:=qBS (G:=G) s hs
 refine rgn [] [[0]] ?_
 refine op1 tok ?_
 refine qA (rgn [.nilp,.int .i64 (Lib.runeCountL s)] [[],[],[2]] ?_)
 iterate 3 refine oq1 tok h ?_
 exact qA (AW.ret qO)
theorem qKJ (s:List UInt8) (hs:s.length≤1000000):AFn Tryz.prog G 104 [.str s,.str s] (.bool true):=by
 refine AFn.introU tok Tryz.func104 (by kernel_rfl) rfl rfl ?_
 simp only [Tryz.f104,qK,List.map_cons,List.map_nil]
 refine rgn [] [[0,1]] ?_
 refine op1 tok ?_
 refine qA (rgn [] [[],[],[],[],[0,1,9],[],[],[],[],[],[1,10,11,13,15],[],[1,10,17],[],[],[20],[4]] ?_)
 iterate 6 refine op1 tok ?_
 iterate 9 refine op2 tok ?_
 iterate 2 refine op1 tok ?_
 exact qA (AW.ret qO)
theorem qOR (s:List UInt8) (hs:s.length≤1000000):AFn Tryz.prog G 73 [.str s,.str s] (.bool true):=by
 refine AFn.introU tok Tryz.func73 (by kernel_rfl) rfl rfl ?_
 simp only [Tryz.f73,qK,List.map_cons,List.map_nil]
 have h:=qKJ (G:=G) s hs
 refine rgn [] [[0,1]] ?_
 refine op1 tok ?_
 refine qA (rgn [.nilp,.bool true] [[],[],[7],[4]] ?_)
 iterate 4 refine oq1 tok h ?_
 exact qA (AW.ret qO)
theorem qNH (v:Val) (m:Int):AFn Tryz.prog G 42 [.agg [.int .u64 m],.str [115,116,97,114,116,115],.str v.text,v.enc] ((if v.kind=5 then kU true m else zD 40 m).enc):=by
 refine AFn.introU tok Tryz.func42 (by kernel_rfl) rfl rfl ?_
 simp only [Tryz.f42,qK,List.map_cons,List.map_nil]
 have hf:=zW (G:=G) 40 m
 have hp:=qJQ (G:=G) v.text v.text
 rw [show qCK v.text v.text=true by simp [qCK]] at hp
 have ht:=qCH (G:=G) true m
 generalize kU true m=T at *
 simp only [Val.enc_def] at hf ht
 refine rgn [] [[],[],[1,2,4,7,8]] ?_
 iterate 3 refine op1 tok ?_
 refine qA (AW.seq (rgn [] [[],[],[1,2,4,7,8,13]] ?_))
 iterate 3 refine op1 tok ?_
 refine qA (cnd ?_ ?_)
 ·intro h13
  try simp at h13
  rw [if_neg (by simpa using h13)]
  refine rgn [.nilp,(zD 40 m).enc] [[],[],[8]] ?_
  iterate 3 refine oq1 tok hf ?_
  exact qA (AW.ret qO)
 intro h13
 try simp at h13
 rw [if_pos (by simpa using h13)]
 refine AW.skip (AW.seq (rgn [] [[2,4,7,8,16]] ?_))
 refine op1 tok ?_
 refine qA (AW.block (rgn [] [[],[2,4,7,8,16,17]] ?_))
 iterate 2 refine op1 tok ?_
 refine qA (cnd ?_ ?_)
 ·intro h17
  try simp at h17
 intro h17
 try simp at h17
 refine rgn [] [[],[2,4,7,8,16,34]] ?_
 iterate 2 refine op1 tok ?_
 refine qA (cnd ?_ ?_)
 ·intro h34
  try simp at h34
  refine AW.seqRunDrawK tok mixed [8] 6 [[4],[7],[37],[2],[38,39],[36,40]] [.nilp,.bool true,.nilp,T.enc] [] (by kernel_rfl) (by intro C; conv=>lhs; simp) (by first | exact ⟨hp,ht⟩ | (simp at hp ht ⊢; exact ⟨hp,ht⟩)) (by simp [Sm.sum,Sm.foot,Sm.tch,Sm.refs]; kernel_rfl) (by intro C; conv=>lhs; simp) (by first | with_reducible exact True.intro | omega | simp | (simp +contextual; omega)) ?_
  exact AW.ret qO
 intro h34
 try simp at h34
theorem qTA (v:Val) (m:Int) (hs:v.text.length≤1000000):AFn Tryz.prog G 42 [.agg [.int .u64 m],.str [101,110,100,115],.str v.text,v.enc] ((if v.kind=5 then kU true m else zD 40 m).enc):=by
 refine AFn.introU tok Tryz.func42 (by kernel_rfl) rfl rfl ?_
 simp only [Tryz.f42,qK,List.map_cons,List.map_nil]
 have hf:=zW (G:=G) 40 m
 have hp:=qOR (G:=G) v.text hs
 have ht:=qCH (G:=G) true m
 generalize kU true m=T at *
 simp only [Val.enc_def] at hf ht
 refine rgn [] [[],[],[1,2,4,7,8]] ?_
 iterate 3 refine op1 tok ?_
 refine qA (AW.seq (rgn [] [[],[],[1,2,4,7,8,13]] ?_))
 iterate 3 refine op1 tok ?_
 refine qA (cnd ?_ ?_)
 ·intro h13
  try simp at h13
  rw [if_neg (by simpa using h13)]
  refine rgn [.nilp,(zD 40 m).enc] [[],[],[8]] ?_
  iterate 3 refine oq1 tok hf ?_
  exact qA (AW.ret qO)
 intro h13
 try simp at h13
 rw [if_pos (by simpa using h13)]
 refine AW.skip (AW.seq (rgn [] [[2,4,7,8,16]] ?_))
 refine op1 tok ?_
 refine qA (AW.block (rgn [] [[],[2,4,7,8,16,17]] ?_))
 iterate 2 refine op1 tok ?_
 refine qA (cnd ?_ ?_)
 ·intro h17
  try simp at h17
 intro h17
 try simp at h17
 refine rgn [] [[],[2,4,7,8,16,34]] ?_
 iterate 2 refine op1 tok ?_
 refine qA (cnd ?_ ?_)
 ·intro h34
  try simp at h34
 intro h34
 try simp at h34
 refine rgn [] [[],[2,4,7,8,16,42]] ?_
 iterate 2 refine op1 tok ?_
 refine qA (cnd ?_ ?_)
 ·intro h42
  try simp at h42
  refine AW.seqRunDrawK tok mixed [8] 6 [[4],[7],[45],[2],[46,47],[44,48]] [.nilp,.bool true,.nilp,T.enc] [] (by kernel_rfl) (by intro C; conv=>lhs; simp) (by first | exact ⟨hp,ht⟩ | (simp at hp ht ⊢; exact ⟨hp,ht⟩)) (by simp [Sm.sum,Sm.foot,Sm.tch,Sm.refs]; kernel_rfl) (by intro C; conv=>lhs; simp) (by first | with_reducible exact True.intro | omega | simp | (simp +contextual; omega)) ?_
  exact AW.ret qO
 intro h42
 try simp at h42
theorem qIT (arg:List UInt8) (v:Val) (m:Int) (hn:v.kids.length≤1000000) (hj:(Lib.join (v.kids.map Val.text) arg).length≤1000000000):AFn Tryz.prog G 46 [.agg [.int .u64 m],.str [106,111,105,110],.str arg,v.enc] ((if v.kind=6 then qBF v.kids arg m else zD 40 m).enc):=by
 refine AFn.introU tok Tryz.func46 (by kernel_rfl) rfl rfl ?_
 simp only [Tryz.f46,qK,List.map_cons,List.map_nil]
 have hf:=zW (G:=G) 40 m
 have hc:=uQ (G:=G) v.kids (by omega)
 have ha:=qLE (G:=G) v.kids arg m hn hj
 generalize qBF v.kids arg m=W at *
 simp only [Val.enc_def] at hf ha
 refine rgn [] [[],[],[1,2,4,7,8]] ?_
 iterate 3 refine op1 tok ?_
 refine qA (AW.seq (rgn [] [[],[],[1,2,4,7,8,12]] ?_))
 iterate 3 refine op1 tok ?_
 refine qA (cnd ?_ ?_)
 ·intro h12
  try simp at h12
  rw [if_neg (by simpa using h12)]
  refine rgn [.nilp,(zD 40 m).enc] [[],[],[8]] ?_
  iterate 3 refine oq1 tok hf ?_
  exact qA (AW.ret qO)
 intro h12
 try simp at h12
 rw [if_pos (by simpa using h12)]
 refine AW.skip (rgn [.nilf,.sl 9 (v.kids.map Val.enc),.clo 31 []] [[],[],[],[1,2,4,8,9]] ?_)
 iterate 4 refine oq1 tok hc ?_
 refine qA (AW.seq (rgn [] [[]] ?_))
 refine op1 tok ?_
 refine qA (AW.block (rgn [] [[],[1,2,4,8,9,18,19]] ?_))
 iterate 2 refine op1 tok ?_
 refine qA (cnd ?_ ?_)
 ·intro h19
  try simp at h19
 intro h19
 try simp at h19
 refine rgn [] [[],[1,2,4,8,9,18,26]] ?_
 iterate 2 refine op1 tok ?_
 refine qA (cnd ?_ ?_)
 ·intro h26
  try simp at h26
 intro h26
 try simp at h26
 refine rgn [] [[],[1,2,4,8,9,18,34]] ?_
 iterate 2 refine op1 tok ?_
 refine qA (cnd ?_ ?_)
 ·intro h34
  try simp at h34
 intro h34
 try simp at h34
 refine rgn [] [[],[1,2,4,8,9,18,39]] ?_
 iterate 2 refine op1 tok ?_
 refine qA (cnd ?_ ?_)
 ·intro h39
  try simp at h39
 intro h39
 try simp at h39
 refine rgn [] [[],[1,2,4,8,9,18,44]] ?_
 iterate 2 refine op1 tok ?_
 refine qA (cnd ?_ ?_)
 ·intro h44
  try simp at h44
 intro h44
 try simp at h44
 refine AW.seq (rgn [] [[],[1,2,4,8,9,18,49]] ?_)
 iterate 2 refine op1 tok ?_
 refine qA (cnd ?_ ?_)
 ·intro h49
  try simp at h49
 intro h49
 try simp at h49
 refine rgz [] [[],[1,2,4,8,9,49]] ?_
 iterate 2 refine op1 tok ?_
 refine qA (cnd ?_ ?_)
 ·intro h49
  try simp at h49
 intro h49
 try simp at h49
 refine AW.skip ?_
 refine AW.freezeE 17 (by conv=>lhs; simp) ?_
 refine rgn [.nilp,W.enc] [[],[],[],[8,59],[8]] ?_
 iterate 5 refine oq1 tok ha ?_
 exact qA (AW.ret qO)
def tV (s:List UInt8):Val := .mk 5 0 dc0 s [] [] 0
def tsV (l:List (List UInt8)):Val := .mk 6 0 dc0 [] [] (l.map tV) 0
theorem qCW {l:List (List UInt8)} (h:l.length≤41) (hq:∀ q∈l,q.length≤40):qBT l 0=tsV l:=by
 unfold qBT tsV
 rw [qNK (by simp; omega)]
 congr 1
 exact List.map_congr_left fun q hq'=>uZ (by have:=hq q hq'; omega) 0
theorem qVP (l:List (List UInt8)):wE (tsV l)=0:=by
 rw [vZ]
 show kR 0 (l.map tV)=0
 induction l with
 | nil=>rfl
 | cons x l ih =>
  simp only [List.map_cons,kR]
  have e:wE (tV x)=0:=by rw [vZ]; rfl
  first | (rw [e,show orM 0 0=0 by decide]; exact ih) | (rw [e,ih]; decide)
theorem qJY (l:List (List UInt8)):(tsV l).kids.map Val.text=l:=by
 show (l.map tV).map Val.text=l
 rw [List.map_map]; conv=>rhs; rw [← List.map_id l]
 exact List.map_congr_left fun x _=>rfl
theorem qVO {l:List (List UInt8)} {sep s:List UInt8} (h:Lib.join l sep=s) (hs:s.length≤40):qBF (tsV l).kids sep 0=tV s:=by
 unfold qBF
 have ha:qBR (tsV l).kids [5,1]=true:=by
  refine List.all_eq_true.2 fun v hv => ?_
  obtain ⟨x,_,rfl⟩:=List.mem_map.1 hv
  simp [tV]
 rw [if_pos ha,qJY,h]
 exact uZ (by omega) 0
theorem qMD (v r:Val) (a:List UInt8) (h:AFn Tryz.prog G 42 [.agg [.int .u64 v.mask],.str [115,116,97,114,116,115],.str a,v.enc] r.enc):AFn Tryz.prog G 11 [.str [115,116,97,114,116,115],.str a,v.enc] r.enc :=
 xY _ a v r ⟨fun h=>absurd h (by decide),fun h=>absurd h (by decide),fun h=>absurd h (by decide),fun h=>absurd h (by decide),fun h=>absurd h (by decide),fun h=>absurd h (by decide),fun h=>absurd h (by decide),fun h=>absurd h (by decide),fun _=>h,fun h=>absurd h (by decide),fun h=>absurd h (by decide),fun h=>absurd (by decide) h⟩
theorem qRM (v r:Val) (a:List UInt8) (h:AFn Tryz.prog G 42 [.agg [.int .u64 v.mask],.str [101,110,100,115],.str a,v.enc] r.enc):AFn Tryz.prog G 11 [.str [101,110,100,115],.str a,v.enc] r.enc :=
 xY _ a v r ⟨fun h=>absurd h (by decide),fun h=>absurd h (by decide),fun h=>absurd h (by decide),fun h=>absurd h (by decide),fun h=>absurd h (by decide),fun h=>absurd h (by decide),fun h=>absurd h (by decide),fun h=>absurd h (by decide),fun _=>h,fun h=>absurd h (by decide),fun h=>absurd h (by decide),fun h=>absurd (by decide) h⟩
theorem qOJ (v r:Val) (h:AFn Tryz.prog G 45 [.agg [.int .u64 (wE v)],v.enc] r.enc):AFn Tryz.prog G 11 [.str [116,111,106,115,111,110],.str [],v.enc] r.enc :=
 xY _ [] v r ⟨fun h=>absurd h (by decide),fun h=>absurd h (by decide),fun h=>absurd h (by decide),fun h=>absurd h (by decide),fun h=>absurd h (by decide),fun h=>absurd h (by decide),fun h=>absurd h (by decide),fun h=>absurd h (by decide),fun h=>absurd h (by decide),fun h=>absurd h (by decide),fun _=>h,fun h=>absurd (by decide) h⟩
theorem qRL (v r:Val) (a:List UInt8) (h:AFn Tryz.prog G 46 [.agg [.int .u64 (wE v)],.str [106,111,105,110],.str a,v.enc] r.enc):AFn Tryz.prog G 11 [.str [106,111,105,110],.str a,v.enc] r.enc :=
 xY _ a v r ⟨fun h=>absurd h (by decide),fun h=>absurd h (by decide),fun h=>absurd h (by decide),fun h=>absurd h (by decide),fun h=>absurd h (by decide),fun h=>absurd h (by decide),fun h=>absurd h (by decide),fun h=>absurd h (by decide),fun h=>absurd h (by decide),fun h=>absurd h (by decide),fun h=>absurd h (by decide),fun _=>h⟩
theorem qRK (v r:Val) (h:AFn Tryz.prog G 31 [.agg [.int .u64 v.mask],v.enc] r.enc):AFn Tryz.prog G 11 [.str [108,101,110,103,116,104],.str [],v.enc] r.enc :=
 xY _ [] v r ⟨fun _=>h,fun h=>absurd h (by decide),fun h=>absurd h (by decide),fun h=>absurd h (by decide),fun h=>absurd h (by decide),fun h=>absurd h (by decide),fun h=>absurd h (by decide),fun h=>absurd h (by decide),fun h=>absurd h (by decide),fun h=>absurd h (by decide),fun h=>absurd h (by decide),fun h=>absurd (by decide) h⟩
theorem qMK (s:List UInt8):(qFU s).length≤40∧Lib.validD (qFU s)=true:=by
 have:=qMA s
 unfold qFU
 split
 ·exact ⟨by decide,by decide +kernel⟩
 rename_i h
 exact ⟨this,by rw [qSF]; simpa using h⟩
theorem qXG {s:List UInt8} (h1:s.length≤40) (h2:Lib.validD s=true):xN (tV s)=true:=by
 rw [qBE]; simp [tV,qBQ,qCF,qPT,qST,qOV,qIS,qPM,dc0,qDX,h2]; exact decide_eq_true (by omega)
theorem qKA (hG : U8 G) (hM : qJR 0 G) (s sep : List UInt8) (hs : s.length ≤ 40) (hv : Lib.validD s = true) (hp : sep.length ≤ 40) : ∃ P R : List (List UInt8), P.length ≤ 41 ∧ R.length ≤ 40 ∧ (s = [] → sep = [] → P = []) ∧
  AFn Tryz.prog G 11 [.str [115,112,108,105,116],.str sep,(tV s).enc] (tsV P).enc ∧
  AFn Tryz.prog G 11 [.str [106,111,105,110],.str sep,(tsV P).enc] (tV s).enc ∧
  AFn Tryz.prog G 11 [.str [115,112,108,105,116],.str [],(tV s).enc] (tsV R).enc ∧
  AFn Tryz.prog G 11 [.str [108,101,110,103,116,104],.str [],(tV s).enc] (qGH R.length 0).enc ∧
  AFn Tryz.prog G 11 [.str [116,111,106,115,111,110],.str [],(tV s).enc] (tV (zM s)).enc ∧
  AFn Tryz.prog G 11 [.str [115,116,97,114,116,115],.str s,(tV s).enc] (kU true 0).enc ∧
  AFn Tryz.prog G 11 [.str [101,110,100,115],.str s,(tV s).enc] (kU true 0).enc:=by
 obtain ⟨r1,r2,r3⟩:=qKK s
 have hrl:=qKN s
 have hse:=qRU (G:=G) hG s (by omega)
 obtain ⟨P,p1,p2,p3,p4,p5⟩:∃ P:List (List UInt8),Lib.join P sep=s∧P.length≤41∧(∀ q∈P,q.length≤40)∧(s=[]→sep=[]→P=[])∧AFn Tryz.prog G 75 [.str s,.str sep] (.sl 1 (P.map PD.str)):=by
  by_cases h:sep=[]
  ·subst h
   exact ⟨wL s,r1,by omega,fun q hq=>by have:=r3 q hq; omega,fun e _=>by subst e; rfl,hse⟩
  obtain ⟨j1,_,j3,j4⟩:=qKG (s:=s) h
  exact ⟨qAF s sep,j1,by omega,fun q hq=>by have:=j4 q hq; omega,fun _ e=>absurd e h,qRT hM s sep h (by omega)⟩
 have w1:=qCW p2 p3
 have w2:=qCW (l:=wL s) (by omega) (fun q hq=>by have:=r3 q hq; omega)
 refine ⟨P,wL s,p2,by omega,p4, ?_, ?_, ?_, ?_, ?_, ?_, ?_⟩
 ·have:=qCI (G:=G) sep P (tV s) 0 (fun _=>p5) (by omega)
  rw [if_pos (show (tV s).kind=5 from rfl),w1] at this
  exact qAQ sep (tV s) _ this
 ·have:=qIT (G:=G) sep (tsV P) 0 (by show (P.map tV).length≤_; simp; omega) (by rw [qJY,p1]; omega)
  rw [if_pos (show (tsV P).kind=6 from rfl),qVO p1 hs] at this
  exact qRL (tsV P) _ sep (by rw [qVP]; exact this)
 ·have:=qCI (G:=G) [] (wL s) (tV s) 0 (fun _=>hse) (by omega)
  rw [if_pos (show (tV s).kind=5 from rfl),w2] at this
  exact qAQ [] (tV s) _ this
 ·have:=qQX (G:=G) Lib.runeCountL (tV s) 0 (fun _=>⟨qUU s (by omega),by show Lib.runeCountL s≤_; omega⟩) (by show 0≤1000000; omega)
  have e:qIV Lib.runeCountL (tV s) 0=qGH (wL s).length 0:=by
   unfold qIV
   rw [if_neg (by simp [tV]),if_pos (by rfl),r2]; rfl
  rw [e] at this
  exact qRK (tV s) _ this
 ·have:=qSZ (G:=G) (tV s) (wE (tV s)) (qXG hs hv) (by simp [tV,Val.sz,Val.szL])
  have hq:=qEQ s
  have e:qPO (tV s) (wE (tV s))=tV (zM s):=by
   unfold qPO
   rw [if_neg (by unfold xA; simp [tV,qQR]),show wE (tV s)=0 from (by rw [vZ]; rfl),show qS (tV s)=zM s from rfl,uZ (by omega)]; rfl
  rw [e] at this
  exact qOJ (tV s) _ this
 ·have:=qNH (G:=G) (tV s) 0
  rw [if_pos (show (tV s).kind=5 from rfl)] at this
  exact qMD (tV s) _ s this
 have:=qTA (G:=G) (tV s) 0 (by show s.length≤_; omega)
 rw [if_pos (show (tV s).kind=5 from rfl)] at this
 exact qRM (tV s) _ s this
end Go.Proofs.YtgcbapchinideaaGreatDoor
