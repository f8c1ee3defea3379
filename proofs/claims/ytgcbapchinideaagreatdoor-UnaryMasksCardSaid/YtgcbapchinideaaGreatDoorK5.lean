import Derived.Test.YtgcbapchinideaaGreatDoorK4
import Derived.Test.YtgcbapchinideaaGreatDoorK3
import Derived.Test.YtgcbapchinideaaGreatDoorK1
import Derived.Test.YtgcbapchinideaaGreatDoorK2
import Derived.Test.YtgcbapchinideaaGreatDoorM3
import Derived.Test.YtgcbapchinideaaGreatDoorM4
import Derived.Lib.ItoaLen
import Derived.Shelf.LaysM
import Derived.Shelf.Strings.SplitShaped
import Derived.Shelf.Utf8.RuneCount
import Derived.Test.YtgcbapchinideaaGreatDoorProg
import Derived.Lib.IndexMore
import Derived.Lib.Join
import Derived.Lib.RuneCountTail
import Derived.Lib.MapLaws
set_option linter.all false
namespace Go.Proofs.YtgcbapchinideaaGreatDoor
open Sy Go
set_option maxRecDepth 100000
set_option maxHeartbeats 4000000
variable {G:qT}
theorem qXD (f:FuncId) (v:Val) (ps:List (List UInt8)) (hl:ps.length=v.kids.length) (hn:ps.length<=1000000) (hj:(Lib.join ps [44]).length<=100000000000) (hf:∀ (i:Nat) (s:List UInt8),ps[i]?=some s->AX Tryz.prog G f [.p (.int .i64 i),.ptr 2 0] [(2,.vars 31 v.cells)] (.p (.str s)) [2] [(2,.vars 31 v.cells)]):AX Tryz.prog G 117 [.p v.enc,.func (.func f) [] [.ptr 2 0]] [(2,.vars 31 v.cells)] (.p (.str (Lib.join ps [44]))) [2] [(2,.vars 31 v.cells)]:=by
 refine AX.introU tok 900 Tryz.func117 (by kernel_rfl) rfl rfl ?_;simp only[Tryz.f117,qG,bA,bC];refine rgn [] [[],[1,2]] ?_;iterate 2 refine op3 ?_
 refine qA (rgn [] [[]] ?_);refine op3 ?_;refine qA (AW.seq (rgn [] [[],[],[],[1,5,9,10]] ?_));iterate 4 refine op3 ?_
 refine qA (AW.block ?_);refine lJ 5 3 9 1 (by simp) (by simp) (by conv=>lhs;simp) ?_;refine AW.loop (α:=Nat) (fun k=>k<=ps.length) (fun k=>⟨qZ 22 [(1,.func (.func f) [] [.ptr 2 0]),(5,.ms 3),(9,.p (.int .i64 ps.length)),(10,.p (.int .i64 k))],[2],[(2,.vars 31 v.cells),(3,.row 9 1 ((ps.take k).map PD.str))],900⟩) (fun k=>ps.length-k) (0) (by omega) ⟨qE (by simp[hl]),rfl,by simp,by simp⟩ ?_;rintro k hk;refine rgn [] [[]] ?_;refine op3 ?_;refine qA (AW.seq (cnd ?_ ?_))
 ·intro h11;try simp at h11
  obtain⟨x,hx⟩:∃ x,ps[k]?=some x:=⟨ps[k],by simp[h11]⟩;have hfx:=hf k x hx;refine AW.skip (AW.seq (AW.block (rgn [] [[],[1,5,6,9,10]] ?_)));iterate 2 refine op3 ?_
  refine qA (rgz [.str x] [[],[],[]] ?_);iterate 3 refine op3 ?_
  refine qJ ?_;refine qB.stepK [1,9,10,13,16] (zI rfl hfx (by simp)) (by conv=>lhs;simp) rfl ?_;refine qB.run [[],[],[1,5,9,10]] ?_;iterate 3 refine op3 ?_
  refine qA (rgz [] [[],[1,5,9,10]] ?_);iterate 2 refine op3 ?_
  refine qA ?_;exact⟨k+1,by omega,by omega,qE (by simp[hx,bX]),rfl,by simp[hx,bX],by simp[hx,bX]⟩
 intro h11;try simp at h11
 obtain rfl:k=ps.length:=by omega
 have hjn:=zMR (G:=G) ps [44] (by omega) (by omega);try simp only[dW]
 refine AW.exit ?_;simp;refine rgn [.nilp,.str (Lib.join ps [44])] [[],[],[4]] ?_;iterate 3 refine op3 ?_ (hv:=by first|exact True.intro|((rw[bK (by simp)];exact hjn);done)|omega|simp)
 refine qA ?_;exact AW.ret zC
def qJL (c:Int):List UInt8:=if c<10 then[UInt8.ofNat (48+c.toNat)] else[UInt8.ofNat (48+c.toNat / 10),UInt8.ofNat (48+c.toNat % 10)]
def qJD:List (List UInt8)->List (List UInt8)->List (List UInt8):=List.zipWith fun k p=>kQ k++[58]++p
mutual
def zG:Val->List UInt8
 | .mk k _ n t ks vs c=>if k=1 then qQW else if k=2 then qJR else if k=3 then qQV else if k=4 then xN n else if k=5 then kQ t else if k=8 then 33::qJL c else if k=7 then[123]++Lib.join (qJD ks (qIR vs)) [44]++[125] else[91]++Lib.join (qIR vs) [44]++[93]
def qIR:List Val->List (List UInt8)
 | []=>[]
 | v::vs=>zG v::qIR vs
end
theorem qPB:∀ l,qIR l=l.map zG
 | []=>by simp only[qIR,bC]
 | v::vs=>by simp only[qIR,bA,qPB vs]
theorem kW (v:Val):zG v=if v.kind=1 then qQW else if v.kind=2 then qJR else if v.kind=3 then qQV else if v.kind=4 then xN v.num else if v.kind=5 then kQ v.text else if v.kind=8 then 33::qJL v.code else if v.kind=7 then[123]++Lib.join (qJD v.keys (v.kids.map zG)) [44]++[125] else[91]++Lib.join (v.kids.map zG) [44]++[93]:=by
 cases v;rw[zG,qPB];rfl
theorem wGT (v x:Val) (i:Nat) (hx:v.kids[i]?=some x) (hp:AFn Tryz.prog G 81 [x.enc] (.str (zG x))):AX Tryz.prog G 119 [.p (.int .i64 i),.ptr 2 0] [(2,.vars 31 v.cells)] (.p (.str (zG x))) [2] [(2,.vars 31 v.cells)]:=by
 refine AX.introU tok 900 Tryz.func119 (by kernel_rfl) rfl rfl ?_;simp only[Tryz.f119,qG,bA,bC];simp only[iK]at hp;have hi:=(bB.1 hx).1;refine rgn [] [[0,1]] ?_;refine op3 ?_;refine qA (rgn [x.enc,.nilp,.str (zG x)] [[],[],[],[7],[],[],[3]] ?_);iterate 7 refine op3 ?_ (hv:=by first|exact True.intro|exact hp|(simp[hx];done)|(simp;omega);done|omega|simp)
 refine qA ?_;exact AW.ret zC
theorem wGU (v x:Val) (key:List UInt8) (i:Nat) (hb:(kQ key).length+(zG x).length<=100000000000) (hk:v.keys[i]?=some key) (hx:v.kids[i]?=some x) (hq:AFn Tryz.prog G 115 [.str key] (.str (kQ key))) (hp:AFn Tryz.prog G 81 [x.enc] (.str (zG x))):AX Tryz.prog G 118 [.p (.int .i64 i),.ptr 2 0] [(2,.vars 31 v.cells)] (.p (.str (kQ key++[58]++zG x))) [2] [(2,.vars 31 v.cells)]:=by
 refine AX.introU tok 900 Tryz.func118 (by kernel_rfl) rfl rfl ?_;simp only[Tryz.f118,qG,bA,bC];simp only[iK]at hp;have hi:=(bB.1 hx).1;have hi2:=(bB.1 hk).1;refine rgn [] [[0,1]] ?_;refine op3 ?_;refine qA ?_;refine iU tok mixed 14 [[1],[4],[0],[5,6],[7],[8],[9],[1],[11],[0],[12,13],[14],[15],[10,16]] [.str key,.nilp,.str (kQ key),x.enc,.nilp,.str (zG x)] [] (by kernel_rfl) ?_;iterate 14 refine d1 ?_ (hv:=by first|exact True.intro|exact hp|exact hq|(simp[hx];done)|(simp[hk];done)|(simp;omega);done|omega|simp)
 refine DGo.nil (by kernel_rfl) ⟨by kernel_rfl, ?_⟩;refine qB.run [[3]] ?_;refine op3 ?_;refine qA ?_;exact AW.ret zC
theorem qTG (x y:List UInt8) (r:List (List UInt8)) (sep:List UInt8):Lib.join (x::y::r) sep=x++sep++Lib.join (y::r) sep:=by
 simp[Lib.join,List.intercalate,List.intersperse]
theorem zEM {s:List UInt8} {sep:List UInt8}:∀ {l:List (List UInt8)},s∈l->s.length<=(Lib.join l sep).length
 | [],h=>by cases h
 | [x],h=>by rw[cG.1 h,Lib.join_one];exact bP _
 | x::y::r,h=>by
  rw[qTG];rcases bM.1 h with h|h
  ·subst h;simp only[bU];omega
  have:=zEM (sep:=sep) h;simp only[bU];omega
theorem zUG {ks ps:List (List UInt8)} {i:Nat} {k p:List UInt8} (h1:ks[i]?=some k) (h2:ps[i]?=some p):(qJD ks ps)[i]?=some (kQ k++[58]++p):=by
 simp[qJD,List.getElem?_zipWith,h1,h2]
theorem zHL (v:Val) (hq8:v.kind=8->AFn Tryz.prog G 116 [.int .i64 v.code] (.str (qJL v.code)) /\ -9223372036854775808<=v.code/\v.code<=9223372036854775807) (hq4:v.kind=4->AFn Tryz.prog G 114 [v.num.enc] (.str (xN v.num))) (hq5:v.kind=5->AFn Tryz.prog G 115 [.str v.text] (.str (kQ v.text))) (hq7:v.kind=7->v.keys.length=v.kids.length/\∀ key∈v.keys,AFn Tryz.prog G 115 [.str key] (.str (kQ key))) (hn:v.kids.length<=1000000) (hb:(zG v).length<=1000000000) (ih:∀ k∈v.kids,AFn Tryz.prog G 81 [k.enc] (.str (zG k))):AFn Tryz.prog G 81 [v.enc] (.str (zG v)):=by
 refine AFn.introU tok Tryz.func81 (by kernel_rfl) rfl rfl ?_;simp only[Tryz.f81,qG,bA,bC];rw[kW v]at hb ⊢;simp only[Dc.enc]at hq4;refine rgn [] [[],[1]] ?_;iterate 2 refine op3 ?_
 refine qA (AW.seq (rgn [] [[],[1,4]] ?_));iterate 2 refine op3 ?_
 refine qA (AW.block (rgn [] [[],[1,4,5]] ?_));iterate 2 refine op3 ?_
 refine qA (cnd ?_ ?_)
 ·intro h5;try simp at h5
  rw[bE h5];refine rgn [] [[]] ?_;refine op3 ?_;refine qA ?_;exact AW.ret (qI (k:=by simp[qQW]))
 intro h5;try simp at h5
 rw[bD h5]at hb ⊢;refine rgn [] [[],[1,4,7]] ?_;iterate 2 refine op3 ?_
 refine qA (cnd ?_ ?_)
 ·intro h7;try simp at h7
  rw[bE h7];refine rgn [] [[]] ?_;refine op3 ?_;refine qA ?_;exact AW.ret (qI (k:=by simp[qJR]))
 intro h7;try simp at h7
 rw[bD h7]at hb ⊢;refine rgn [] [[],[1,4,9]] ?_;iterate 2 refine op3 ?_
 refine qA (cnd ?_ ?_)
 ·intro h9;try simp at h9
  rw[bE h9];refine rgn [] [[]] ?_;refine op3 ?_;refine qA ?_;exact AW.ret (qI (k:=by simp[qQV]))
 intro h9;try simp at h9
 rw[bD h9]at hb ⊢;refine rgn [] [[],[1,4,11]] ?_;iterate 2 refine op3 ?_
 refine qA (cnd ?_ ?_)
 ·intro h11;try simp at h11
  rw[bE h11];have h4:=hq4 h11;refine rgn [.nilp,.str (xN v.num)] [[],[],[],[2]] ?_;iterate 4 refine oq1 tok h4 ?_
  exact qA (AW.ret qI)
 intro h11;try simp at h11
 rw[bD h11]at hb ⊢;refine rgn [] [[],[1,4,16]] ?_;iterate 2 refine op3 ?_
 refine qA (cnd ?_ ?_)
 ·intro h16;try simp at h16
  rw[bE h16];have h5q:=hq5 h16;refine rgn [.nilp,.str (kQ v.text)] [[],[],[],[2]] ?_;iterate 4 refine oq1 tok h5q ?_
  exact qA (AW.ret qI)
 intro h16;try simp at h16
 rw[bD h16]at hb ⊢;refine rgn [] [[],[1,4,21]] ?_;iterate 2 refine op3 ?_
 refine qA (cnd ?_ ?_)
 ·intro h21;try simp at h21
  rw[bE h21]at hb ⊢;obtain⟨h8,h8a,h8b⟩:=hq8 h21;have hil:(qJL v.code).length<=2:=by unfold qJL;split <;> simp
  refine rgn [.nilp,.str (qJL v.code)] [[],[],[],[26],[2]] ?_;iterate 5 refine oq1 tok h8 ?_
  exact qA (AW.ret qI)
 intro h21;try simp at h21
 rw[bD h21]at hb ⊢;refine rgn [] [[],[1,27]] ?_;iterate 2 refine op3 ?_
 refine qA (cnd ?_ ?_)
 ·intro h27;try simp at h27
  rw[bE h27]at hb ⊢;obtain⟨hkl,hqk⟩:=hq7 h27;have hel:(qJD v.keys (v.kids.map zG)).length=v.kids.length:=by simp[qJD,hkl]
  have hJ:=qXD (G:=G) 118 v (qJD v.keys (v.kids.map zG)) hel (by omega) (by simp only[bU]at hb;omega) (fun i s hs=>by
   have hi:=(bB.1 hs).1;have hk:v.keys[i]?=some (v.keys[i]'(by omega)):=by simp
   have hx:v.kids[i]?=some (v.kids[i]'(by omega)):=by simp
   have hg:=zUG (ks:=v.keys) (ps:=v.kids.map zG) hk (by rw[bG,hx];rfl);rw[hs]at hg;cases hg;have hm:=zEM (sep:=[44]) (bH hs);exact wGU v _ _ i (by simp only[bU]at hb hm;omega) hk hx (hqk _ (dV _)) (ih _ (dV _)))
  have hjl:(Lib.join (qJD v.keys (v.kids.map zG)) [44]).length<=1000000000:=by simp only[bU]at hb;omega
  refine lI 1 2 (by simp) (by conv=>lhs;simp) ?_;refine rgn [] [[],[]] ?_;iterate 2 refine op3 ?_ (hv:=by first|exact True.intro|omega|(simp;omega);done|omega|simp)
  refine qJ ?_;refine qB.stepK [31] (zI rfl hJ (by simp)) (by conv=>lhs;simp) rfl ?_;refine qB.run [[],[],[2]] ?_;iterate 3 refine op3 ?_ (hv:=by first|exact True.intro|omega|(simp;omega);done|omega|simp)
  exact qA (AW.ret qI)
 intro h27;try simp at h27
 rw[bD h27]at hb ⊢;have hJ:=qXD (G:=G) 119 v (v.kids.map zG) (by simp) (by simpa using hn) (by simp only[bU]at hb;omega) (fun i s hs=>by
  rw[bG,bF]at hs;obtain⟨x,hx,rfl⟩:=hs;exact wGT v x i hx (ih x (bH hx)))
 have hjl:(Lib.join (v.kids.map zG) [44]).length<=1000000000:=by simp only[bU]at hb;omega
 refine AW.skip ?_;refine lI 1 2 (by simp) (by conv=>lhs;simp) ?_;refine rgn [] [[],[]] ?_;iterate 2 refine op3 ?_ (hv:=by first|exact True.intro|omega|(simp;omega);done|omega|simp)
 refine qJ ?_;refine qB.stepK [36] (zI rfl hJ (by simp)) (by conv=>lhs;simp) rfl ?_;refine qB.run [[],[],[2]] ?_;iterate 3 refine op3 ?_ (hv:=by first|exact True.intro|omega|(simp;omega);done|omega|simp)
 exact qA (AW.ret qI)
def zBE (G:qT) (c:Int):Prop:=AFn Tryz.prog G 116 [.int .i64 c] (.str (qJL c))/\0<=c/\c<=99
inductive Prn (G:qT):Val->Prop
 | mk {v : Val} (h8 : v.kind = 8 → zBE G v.code) (h4 : v.kind = 4 → zJ v.num = true) (h5 : v.kind = 5 → Lib.validD v.text = true ∧ v.text.length ≤ 1000000000) (h7 : v.kind = 7 → v.keys.length = v.kids.length ∧ ∀ key ∈ v.keys, Lib.validD key = true ∧ key.length ≤ 1000000000)
   (hn:v.kids.length<=1000000) (hb:(zG v).length<=1000000000) (ih:∀ k∈v.kids,Prn G k):Prn G v
theorem zOE (v:Val) (h:Prn G v):AFn Tryz.prog G 81 [v.enc] (.str (zG v)):=by
 induction h with
 | mk h8 h4 h5 h7 hn hb _ ih=>exact zHL _ (fun h=>⟨(h8 h).1,by have:=h8 h;unfold zBE at this;omega,by have:=h8 h;unfold zBE at this;omega⟩) (fun h=>qPV _ (h4 h)) (fun h=>zGH _ (h5 h).1 (h5 h).2) (fun h=>⟨(h7 h).1,fun key hk=>zGH key ((h7 h).2 key hk).1 ((h7 h).2 key hk).2⟩) hn hb ih
theorem wGO (b:UInt8):(qb b).length<=6:=by
 unfold qb;(repeat' split) <;> simp
theorem zDB (s:List UInt8):(kQ s).length<=6 * s.length+2:=by
 have:∀ s:List UInt8,(xA s).length<=6 * s.length:=by
  intro s;induction s with
  | nil=>simp[xA]
  | cons b s ih =>
   have h:=wGO b;show(qb b++xA s).length<=_
   rw[bU,cA];omega
 have:=this s;unfold kQ;simp;omega
theorem zAE:∀ l:List (List UInt8),(Lib.join l [44]).length<=(l.map List.length).sum+l.length
 | []=>by simp[Lib.join,List.intercalate]
 | [x]=>by rw[Lib.join_one];simp
 | x::y::r=>by
  rw[qTG];have:=zAE (y::r);simp only[bU,bA,List.sum_cons,cA,dN]at this ⊢;omega
theorem zOF {d:Dc} (h:zJ d=true):(xN d).length<=130:=by
 have hb:=qCB h;unfold xN yC wB;split <;> split <;> simp <;> omega
theorem qKN (b:UInt8) (n:Nat) (hn:n<256):((b.toNat:Int)=(n:Int))↔b=UInt8.ofNat n:=by
 constructor
 ·intro e;exact dU.1 (by rw[gM];omega)
 rintro rfl;rw[gM];omega
theorem qRY (s:List UInt8) (k:Nat):zT s k=((s.drop k).takeWhile qO).length:=rfl
theorem qNI (l:List UInt8):l=l.takeWhile qO++l.dropWhile qO:=(gD).symm
theorem zKG (s:List UInt8) (k:Nat):∀ i,i<=zT s k->upM s k i=(qFM ((s.drop k).take i):Int)
 | 0,_=>by simp[upM,qFM]
 | i+1,h=>by
  have hd:=qCJ (s:=s) (k:=k) (i:=i) (by omega);have hg:(s.drop k)[i]?=some (s.getD (k+i) 0):=by
   rw[bZ,bJ];have:k+i<s.length:=hd.1;simp[cI this]
  rw[upM,zKG s k i (by omega),bX,hg];simp only[Option.toList_some,qFM,gT,fH,List.foldl_nil];have hb:qS s (k+i)=((s.getD (k+i) 0).toNat:Int):=rfl;omega
theorem qOA {s:List UInt8} {k:Nat} {b:UInt8} {t:List UInt8} (h:s.drop k=b::t):s.drop (k+1)=t:=by
 rw[<-dG,h];rfl
theorem zNO {s:List UInt8} {k:Nat}:s.drop (yQ s k)=kA (s.drop k)/\(k<s.length/\qS s k=45↔(s.drop k).head?=some 45):=by
 cases h:s.drop k with
 | nil =>
  have:¬ k<s.length:=by have:=List.drop_eq_nil_iff.1 h;omega
  refine⟨?_,by simp;omega⟩;unfold yQ kA;rw[bD (by omega),h];simp
 | cons b t =>
  obtain⟨h1,h2⟩:=qDR h;have e45:qS s k=45↔b=45:=by rw[h2];exact qKN b 45 (by decide)
  have e43:qS s k=43↔b=43:=by rw[h2];exact qKN b 43 (by decide)
  refine⟨?_,by simp[h1,e45]⟩;unfold yQ kA;simp only[h1,e45,e43,true_and,iG,Option.some.injEq,iE,gV];split
  ·exact qOA h
  exact h
theorem qZE (s:List UInt8) (k:Nat) (hk:k<=s.length) (neg:Bool) (digits:List UInt8) (scale:Nat) :
  qAZ s neg digits scale (qHG s k)=match qEY (s.drop k)with
   | none=>xF
   | some up=>uR neg digits (scale-up):=by
 cases h:s.drop k with
 | nil =>
  have:¬ k<s.length:=by have:=List.drop_eq_nil_iff.1 h;omega
  simp only[qHG,qEY];rw[bD (by omega)];simp only[qAZ];rw[bE (by omega)]
 | cons b t =>
  obtain⟨h1,h2⟩:=qDR h;have e1:qS s k=101↔b=101:=by rw[h2];exact qKN b 101 (by decide)
  have e2:qS s k=69↔b=69:=by rw[h2];exact qKN b 69 (by decide)
  simp only[qHG,qEY,h1,true_and,e1,e2];by_cases hb:b=101\/b=69
  ·rw[bE hb,bD (show ¬ (b≠101/\b≠69) from fun h=>by rcases hb with hb|hb;exact h.1 hb;exact h.2 hb)];obtain⟨sd,sh⟩:=zNO (s:=s) (k:=k+1);rw[qOA h]at sd sh;have hrun:=qRY s (yQ s (k+1));have hup:=zKG s (yQ s (k+1)) _ (bP _);rw[sd]at hrun hup;have hsp:=qNI (kA t);have hlen:(s.drop (yQ s (k+1))).length=(kA t).length:=by rw[sd]
   rw[bQ]at hlen;have hl2:=congrArg List.length hsp;rw[bU,<-hrun]at hl2;generalize yQ s (k+1)=sg at *;have htk:(kA t).take (zT s sg)=(kA t).takeWhile qO:=by
    conv=>lhs;rw[hsp,hrun]
    exact List.take_left
   rw[htk]at hup;rw[hup,<-hrun];by_cases hD:zT s sg<1\/2<zT s sg
   ·rw[bE hD,bE (.inr hD)];rfl
   rw[bD hD];by_cases hE:(kA t).dropWhile qO=[]
   ·rw[bD (show ¬ ((kA t).dropWhile qO≠[]\/zT s sg<1\/2<zT s sg) from fun h=>h.elim (fun h=>h hE) hD)];rw[hE,dN]at hl2;simp only[qAZ];rw[bE (show sg+zT s sg=s.length by omega)];simp only[sh]
   rw[bE (show(kA t).dropWhile qO≠[]\/zT s sg<1\/2<zT s sg from .inl hE)];have:=bV.2 hE;simp only[qAZ];rw[bD (show ¬ sg+zT s sg=s.length by omega)]
  rw[bD hb,bE (show b≠101/\b≠69 from by simp only[not_or]at hb;exact hb)];simp only[qAZ];rw[bD (by omega)]
theorem zXD (s:List UInt8) (k:Nat) (hk:k<=s.length) (neg:Bool) (dg:List UInt8) :
  qLG s neg (qGT s k dg)=match qDO (s.drop k)with
   | none=>xF
   | some (P,r)=>(match qEY r with
    | none=>xF
    | some up=>uR neg (dg++P) (P.length-up)):=by
 cases h:s.drop k with
 | nil =>
  have:¬ k<s.length:=by have:=List.drop_eq_nil_iff.1 h;omega
  simp only[qGT,qDO];rw[bD (by omega),bD (by simp)];simp only[qLG];rw[qZE s k hk,h];simp
 | cons b t =>
  obtain⟨h1,h2⟩:=qDR h;have e1:qS s k=46↔b=46:=by rw[h2];exact qKN b 46 (by decide)
  simp only[qGT,qDO,h1,true_and,e1,iG,Option.some.injEq,iE,gV];by_cases hb:b=46
  ·rw[bE hb,bE hb];have hd:=qOA h;have hrun:=qRY s (k+1);rw[hd]at hrun;have hsp:=qNI t;have hin:=qLL s (k+1) (by omega);by_cases hP:t.takeWhile qO=[]
   ·rw[bE hP,bE (by rw[hrun,hP];rfl)];rfl
   rw[bD hP,bD (by rw[hrun];have:=bV.2 hP;omega)];simp only[qLG];rw[qZE s _ hin];have hd2:s.drop (k+1+zT s (k+1))=t.dropWhile qO:=by
    rw[<-dG,hd,hrun];conv=>lhs;arg 2;rw[hsp]
    exact List.drop_left
   have ht2:(s.take (k+1+zT s (k+1))).drop (k+1)=t.takeWhile qO:=by
    rw[List.drop_take,hd,show k+1+zT s (k+1)-(k+1)=(t.takeWhile qO).length by omega];conv=>lhs;arg 2;rw[hsp]
    exact List.take_left
   rw[hd2,ht2,hrun]
  rw[bD hb,bD hb];simp only[qLG];rw[qZE s k hk,h];simp
theorem zSN (s:List UInt8):vW s=kR s:=by
 have hb:qAM s=s.drop (a0M s)/\qUU s=vH s/\a0M s<=s.length:=by
  cases s with
  | nil=>exact⟨rfl,rfl,by decide⟩
  | cons b t =>
   have:vH (b::t)=decide (b=45):=by
    unfold vH;rw[show qS (b::t) 0=(b.toNat:Int) from rfl];rw[eM];simp;exact qKN b 45 (by decide)
   refine⟨?_,by unfold qUU;rw[this];simp,by unfold a0M;split <;> simp⟩;unfold qAM a0M;rw[this];by_cases hb:b=45
   ·simp[hb]
   simp[hb]
 obtain⟨h1,h2,h3⟩:=hb;unfold vW kR;rw[h1,h2];have hrun:=qRY s (a0M s);have hin:=qLL s (a0M s) h3;have hsp:=qNI (s.drop (a0M s));have ht2:(s.take (a0M s+zT s (a0M s))).drop (a0M s)=(s.drop (a0M s)).takeWhile qO:=by
  rw[List.drop_take,show a0M s+zT s (a0M s)-a0M s=((s.drop (a0M s)).takeWhile qO).length by omega];conv=>lhs;arg 2;rw[hsp]
  exact List.take_left
 have hd2:s.drop (a0M s+zT s (a0M s))=(s.drop (a0M s)).dropWhile qO:=by
  rw[<-dG,hrun];conv=>lhs;arg 2;rw[hsp]
  exact List.drop_left
 rw[zXD s _ hin,ht2,hd2];generalize hW:(s.drop (a0M s)).takeWhile qO=W at *;have hc:(zT s (a0M s)=0\/(1<zT s (a0M s)/\qS s (a0M s)=48))↔(W=[]\/(1<W.length/\W.head?=some 48)):=by
  rw[hrun];cases W with
  | nil=>simp
  | cons b W =>
   have e:s.drop (a0M s)=b::(W++(s.drop (a0M s)).dropWhile qO):=hsp;obtain⟨q1,q2⟩:=qDR e;rw[q2];simp;intro _;exact qKN b 48 (by decide)
 by_cases hC:W=[]\/(1<W.length/\W.head?=some 48)
 ·rw[bE (hc.2 hC)];cases qDO ((s.drop (a0M s)).dropWhile qO)with
  | none=>rfl
  | some q =>
   obtain⟨P,r⟩:=q;simp only;cases qEY r with
   | none=>rfl
   | some up=>simp only[zAN];rw[bE hC]
 rw[bD (fun h=>hC (hc.1 h))];cases qDO ((s.drop (a0M s)).dropWhile qO)with
 | none=>rfl
 | some q =>
  obtain⟨P,r⟩:=q;simp only;cases qEY r with
  | none=>rfl
  | some up=>simp only[zAN];rw[bD hC]
mutual
def qAS:Val->Bool
 | .mk k _ _ _ _ vs _=>decide (k=8) || zSL vs
def zSL:List Val->Bool
 | []=>false
 | v::vs=>qAS v || zSL vs
end
theorem zDG:∀ l,zSL l=l.any qAS
 | []=>by simp[zSL]
 | v::vs=>by simp[zSL,zDG vs]
theorem qFQ (v:Val):qAS v=(decide (v.kind=8) || v.kids.any qAS):=by
 cases v;simp only[qAS,zDG,Val.kids,Val.kind];rfl
theorem zKW {v k:Val} (h:qAS v=false) (hk:k∈v.kids):qAS k=false:=by
 rw[qFQ,fZ]at h;have:=List.any_eq_false.1 h.2 k hk;simpa using this
theorem zDF {v:Val} (h:qAS v=false):v.kind≠8:=by
 rw[qFQ,fZ]at h;simpa using h.1
theorem qNS {v:Val} (h:qU v=true) (hc:v.kind≠8):v.code=0/\v.kids.length<=200 /\
  ((v.kind=1/\v.num=dc0/\v.text=[]/\v.keys=[]/\v.kids=[])\/(v.kind=2/\v.num=dc0/\v.text=[]/\v.keys=[]/\v.kids=[])\/(v.kind=3/\v.num=dc0/\v.text=[]/\v.keys=[]/\v.kids=[]) \/
   (v.kind=4/\zJ v.num=true/\v.text=[]/\v.keys=[]/\v.kids=[])\/(v.kind=5/\v.num=dc0/\kJ v.text=true/\v.keys=[]/\v.kids=[]) \/
   (v.kind=6/\v.num=dc0/\v.text=[]/\v.keys=[])\/(v.kind=7/\v.num=dc0/\v.text=[]/\v.keys.length=v.kids.length/\xU v.keys=true)):=by
 rw[yB]at h;simp only[bI,yD,yT,bY]at h;obtain⟨⟨⟨b1,b2,b3⟩,⟨⟨⟨⟨c1,c2⟩,c3⟩,c4⟩,c5⟩⟩,_⟩:=h;have hcode:v.code=0:=by
  unfold qBF at c1;simp[hc]at c1;exact c1
 refine⟨hcode,b3, ?_⟩;unfold qBI at c2;unfold jY at c3;unfold yU at c4;unfold uS at c5;have hnum:v.kind≠4->v.num=dc0:=fun h4=>by
  rw[bD h4]at c2;simp only[bY]at c2;exact Dc.ext' c2.1 c2.2.1 c2.2.2
 have htxt:v.kind≠5->v.text=[]:=fun h4=>by rw[bD h4]at c3;simpa using c3
 have hkey:v.kind≠7->v.keys=[]:=fun h4=>by rw[bD h4]at c4;simpa using c4
 have hkid:v.kind≠6->v.kind≠7->v.kids=[]:=fun h6 h7=>by simpa[h6,h7]using c5
 have hk:v.kind=1\/v.kind=2\/v.kind=3\/v.kind=4\/v.kind=5\/v.kind=6\/v.kind=7:=by omega
 rcases hk with k|k|k|k|k|k|k
 ·exact .inl ⟨k,hnum (by omega),htxt (by omega),hkey (by omega),hkid (by omega) (by omega)⟩
 ·exact .inr (.inl ⟨k,hnum (by omega),htxt (by omega),hkey (by omega),hkid (by omega) (by omega)⟩)
 ·exact .inr (.inr (.inl ⟨k,hnum (by omega),htxt (by omega),hkey (by omega),hkid (by omega) (by omega)⟩))
 ·rw[bE k]at c2;exact .inr (.inr (.inr (.inl ⟨k,c2,htxt (by omega),hkey (by omega),hkid (by omega) (by omega)⟩)))
 ·rw[bE k]at c3;exact .inr (.inr (.inr (.inr (.inl ⟨k,hnum (by omega),c3,hkey (by omega),hkid (by omega) (by omega)⟩))))
 ·exact .inr (.inr (.inr (.inr (.inr (.inl ⟨k,hnum (by omega),htxt (by omega),hkey (by omega)⟩)))))
 rw[bE k]at c4;simp only[bI,bY]at c4;exact .inr (.inr (.inr (.inr (.inr (.inr ⟨k,hnum (by omega),htxt (by omega),by omega,c4.2⟩)))))
theorem zUF (key:List UInt8) (keys:List (List UInt8)) (p:List UInt8) (ps:List (List UInt8)):qJD (key::keys) (p::ps)=(kQ key++[58]++p)::qJD keys ps:=rfl
theorem zSJ {v:Val} (k:v.kind=1):zG v=qQW:=by rw[kW,bE k]
theorem zSI {v:Val} (k:v.kind=2):zG v=qJR:=by rw[kW,bD (by omega),bE k]
theorem zSH {v:Val} (k:v.kind=3):zG v=qQV:=by rw[kW,bD (by omega),bD (by omega),bE k]
theorem zSG {v:Val} (k:v.kind=4):zG v=xN v.num:=by rw[kW,bD (by omega),bD (by omega),bD (by omega),bE k]
theorem zSF {v:Val} (k:v.kind=5):zG v=kQ v.text:=by rw[kW,bD (by omega),bD (by omega),bD (by omega),bD (by omega),bE k]
theorem wBS {v:Val} (k:v.kind=8):zG v=33::qJL v.code:=by rw[kW,bD (by omega),bD (by omega),bD (by omega),bD (by omega),bD (by omega),bE k]
theorem zSD {v:Val} (k:v.kind=7):zG v=[123]++Lib.join (qJD v.keys (v.kids.map zG)) [44]++[125]:=by rw[kW,bD (by omega),bD (by omega),bD (by omega),bD (by omega),bD (by omega),bD (by omega),bE k]
theorem zSE {v:Val} (k:v.kind=6):zG v=[91]++Lib.join (v.kids.map zG) [44]++[93]:=by rw[kW,bD (by omega),bD (by omega),bD (by omega),bD (by omega),bD (by omega),bD (by omega),bD (by omega)]
theorem qEB {s:List UInt8} (h:kJ s=true):Lib.validD s=true/\s.length<=4096:=by
 unfold kJ at h;simp only[bI,bY]at h;exact⟨h.2,by omega⟩
theorem qYS (l:List Val) (h:∀ k∈l,(zG k).length+25000<=50000 * iR k):((l.map zG).map List.length).sum+25000 * l.length<=50000 * iT l:=by
 induction l with
 | nil=>simp
 | cons v l ih =>
  have h1:=h v (by simp);have h2:=ih fun k hk=>h k (by simp[hk]);simp only[bA,List.sum_cons,cA,iT];omega
theorem zLV:∀ (l:List Val) (keys:List (List UInt8)),(∀ k∈keys,kJ k=true)->(∀ k∈l,(zG k).length+25000<=50000 * iR k)->((qJD keys (l.map zG)).map List.length).sum+(qJD keys (l.map zG)).length<=50000 * iT l
 | [],keys,_,_=>by cases keys <;> simp[qJD]
 | v::l,[],_,_=>by simp[qJD]
 | v::l,key::keys,hk,h=>by
  have h1:=h v (by simp);have h2:=zLV l keys (fun k hk'=>hk k (by simp[hk'])) fun k hk=>h k (by simp[hk]);have h3:=zDB key;have h4:=(qEB (hk key (by simp))).2;rw[bA,zUF];simp only[bA,List.sum_cons,cA,iT,bU,dN];omega
theorem zOC (v:Val):qU v=true->(zG v).length+25000<=50000 * iR v:=by
 induction v using iV with
 | h v ih =>
  intro hm;rw[zKJ];have ihk:∀ k∈v.kids,(zG k).length+25000<=50000 * iR k:=fun k hk=>ih k hk (yZ hm hk);by_cases h8:v.kind=8
  ·rw[wBS h8];have:(qJL v.code).length<=2:=by unfold qJL;split <;> simp
   simp;omega
  obtain⟨_,_,hc⟩:=qNS hm h8;rcases hc with⟨k,_⟩|⟨k,_⟩|⟨k,_⟩|⟨k,h1,_⟩|⟨k,_,h2,_⟩|⟨k,h1,h2,h3⟩|⟨k,h1,h2,h3,h4⟩
  ·rw[zSJ k];simp[qQW];omega
  ·rw[zSI k];simp[qJR];omega
  ·rw[zSH k];simp[qQV];omega
  ·rw[zSG k];have:=zOF h1;omega
  ·rw[zSF k];have:=zDB v.text;have:=(qEB h2).2;omega
  ·rw[zSE k];have:=qYS v.kids ihk;have:=zAE (v.kids.map zG);simp only[bU,cA,dN,cV]at this ⊢;omega
  rw[zSD k];unfold xU at h4;simp only[bI,bR]at h4;have:=zLV v.kids v.keys h4.1 ihk;have:=zAE (qJD v.keys (v.kids.map zG));simp only[bU,cA,dN]at this ⊢;omega
mutual
def qGG (c:Int):Val->Prop
 | .mk k _ _ _ _ vs e=>(k=8->e=c)/\qHX c vs
def qHX (c:Int):List Val->Prop
 | []=>True
 | v::vs=>qGG c v/\qHX c vs
end
theorem qMM (c:Int):∀ l,qHX c l↔∀ v∈l,qGG c v
 | []=>by simp[qHX]
 | v::vs=>by simp[qHX,qMM c vs]
theorem qPT (c:Int) (v:Val):qGG c v↔(v.kind=8->v.code=c)/\∀ k∈v.kids,qGG c k:=by cases v;simp only[qGG,qMM,Val.kind,Val.kids,Val.code]
theorem zSC {c:Int} (v:Val):qU v=true->iR v<=10000->qGG c v->(qAS v=true->zBE G c)->Prn G v:=by
 induction v using iV with
 | h v ih =>
  intro hm hs hc hI;have hl:=zOC v hm;have hc':=(qPT c v).1 hc;have hk1:∀ k∈v.kids,Prn G k:=fun k hk=>ih k hk (yZ hm hk) (by have:=mB hk;omega) (hc'.2 k hk) fun hp=>hI (by
   rw[qFQ];simp only[cX,List.any_eq_true];exact .inr ⟨k,hk,hp⟩)
  by_cases h8:v.kind=8
  ·have hcode:=hc'.1 h8;refine .mk (fun _=>by rw[hcode];exact hI (by rw[qFQ];simp[h8])) (fun h=>by omega) (fun h=>by omega) (fun h=>by omega) ?_ (by omega) hk1;exact zHY (by omega)
  obtain⟨_,hkl,hcs⟩:=qNS hm h8;refine .mk (fun h=>absurd h h8) (fun h=>xP hm h) (fun h => ?_) (fun h => ?_) (by omega) (by omega) hk1
  ·rcases hcs with⟨k,_⟩|⟨k,_⟩|⟨k,_⟩|⟨k,h1,_⟩|⟨k,_,h2,_⟩|⟨k,h1,h2,h3⟩|⟨k,h1,h2,h3,h4⟩
   ·omega
   ·omega
   ·omega
   ·omega
   ·exact⟨(qEB h2).1,by have:=(qEB h2).2;omega⟩
   ·omega
   omega
  rcases hcs with⟨k,_⟩|⟨k,_⟩|⟨k,_⟩|⟨k,h1,_⟩|⟨k,_,h2,_⟩|⟨k,h1,h2,h3⟩|⟨k,h1,h2,h3,h4⟩
  ·omega
  ·omega
  ·omega
  ·omega
  ·omega
  ·omega
  unfold xU at h4;simp only[bI,bR]at h4;exact⟨h3,fun key hk=>⟨(qEB (h4.1 key hk)).1,by have:=(qEB (h4.1 key hk)).2;omega⟩⟩
theorem zJF (c:Int) (v:Val):qAS v=false->qGG c v:=by
 induction v using iV with
 | h v ih =>
  intro hp;rw[qPT];exact⟨fun h=>absurd h (zDF hp),fun k hk=>ih k hk (zKW hp hk)⟩
theorem zDE {v:Val} (hm:qU v=true) (hp:qAS v=false) (hs:iR v<=10000):AFn Tryz.prog G 81 [v.enc] (.str (zG v)) :=
 zOE v (zSC (c:=0) v hm hs (zJF 0 v hp) fun h=>by rw[hp]at h;cases h)
theorem zYR:∀ (x y:List UInt8),x.length=y.length->x.all qO=true->y.all qO=true->(Op.bytesLess x y=true↔zY x<zY y)
 | [],[],_,_,_=>by simp[Op.bytesLess]
 | [],_::_,h,_,_=>by simp at h
 | _::_,[],h,_,_=>by simp at h
 | a::x,b::y,h,hx,hy=>by
  simp only[eF,bI]at hx hy;have hl:x.length=y.length:=by simpa using h
  have ih:=zYR x y hl hx.2 hy.2;have da:=(kY a).1 hx.1;have db:=(kY b).1 hy.1;have lx:=uA hx.2;have ly:=uA hy.2;rw[xO,xO,hl];rw[hl]at lx;simp only[Op.bytesLess,cX,bI,bY,dD,fT,ih];by_cases h1:a.toNat<b.toNat
  ·have:=cM (10 ^ y.length) (show a.toNat-48+1<=b.toNat-48 by omega);rw[dC,eI]at this;exact⟨fun _=>by omega,fun _ => .inl h1⟩
  by_cases h2:a=b
  ·subst h2
   exact ⟨fun h => by rcases h with h | h; · omega
                      ·omega,fun h => .inr ⟨rfl,by omega⟩⟩
  have h3:b.toNat<a.toNat:=by have:a.toNat≠b.toNat:=fun e=>h2 (dU.1 e);omega
  have:=cM (10 ^ y.length) (show b.toNat-48+1<=a.toNat-48 by omega);rw[dC,eI]at this
  exact ⟨fun h => by rcases h with h | h; · omega
                     ·exact(h2 h.1).elim,fun h=>by omega⟩
theorem zUJ:∀ (x y:List UInt8),x.length=y.length->x.all qO=true->y.all qO=true->zY x=zY y->x=y
 | [],[],_,_,_,_=>rfl
 | [],_::_,h,_,_,_=>by simp at h
 | _::_,[],h,_,_,_=>by simp at h
 | a::x,b::y,h,hx,hy,he=>by
  simp only[eF,bI]at hx hy;have hl:x.length=y.length:=by simpa using h
  have da:=(kY a).1 hx.1;have db:=(kY b).1 hy.1;have lx:=uA hx.2;have ly:=uA hy.2;rw[xO,xO,hl]at he;rw[hl]at lx;have hab:a.toNat=b.toNat:=by
   by_cases h1:a.toNat<b.toNat
   ·have:=cM (10 ^ y.length) (show a.toNat-48+1<=b.toNat-48 by omega);rw[dC,eI]at this;omega
   by_cases h3:b.toNat<a.toNat
   ·have:=cM (10 ^ y.length) (show b.toNat-48+1<=a.toNat-48 by omega);rw[dC,eI]at this;omega
   omega
  rw[hab]at he;rw[dU.1 hab,zUJ x y hl hx.2 hy.2 (by omega)]
theorem zTH {x y:List UInt8} (hx:x.all qO=true) (hy:y.all qO=true) (lx:0<x.length) (ly:0<y.length) (h1:qS x 0≠48) (h2:qS y 0≠48) (h:zY x=zY y):x.length=y.length:=by
 have a1:=qCE hx lx h1;have a2:=qCE hy ly h2;have b1:=uA hx;have b2:=uA hy;by_cases h3:x.length<y.length
 ·have:=dI (show 0<10 by omega) (show x.length<=y.length-1 by omega);omega
 by_cases h4:y.length<x.length
 ·have:=dI (show 0<10 by omega) (show y.length<=x.length-1 by omega);omega
 omega
theorem qWO {d:Dc} (h:zJ d=true):(d.digits=[48]/\d.scale=0/\d.neg=false)\/(qS d.digits 0≠48/\(d.scale=0\/qS d.digits (d.digits.length-1)≠48)):=by
 unfold zJ at h;simp only[bI]at h;obtain⟨_,h3⟩:=h;split at h3
 ·rename_i h4;simp at h3;exact .inl ⟨h4,h3.1,h3.2⟩
 simp at h3;exact .inr h3
def qGE:Nat->Nat->List UInt8
 | 0,_=>[]
 | w+1,v=>UInt8.ofNat (48+v / 10 ^ w % 10)::qGE w v
theorem qMH:∀ w v,(qGE w v).length=w
 | 0,_=>rfl
 | w+1,v=>by simp[qGE,qMH w v]
theorem qGD {n:Nat} (h:n<10):(UInt8.ofNat (48+n)).toNat=48+n:=by rw[gM];omega
theorem zFB:∀ w v,(qGE w v).all qO=true
 | 0,_=>rfl
 | w+1,v=>by
  have h:v / 10 ^ w % 10<10:=eQ _ (by decide);simp only[qGE,eF,zFB w v,gP];rw[kY,qGD h];omega
theorem zFA:∀ w v,zY (qGE w v)=v % 10 ^ w
 | 0,v=>by simp[qGE,zY,Nat.mod_one]
 | w+1,v=>by
  have h:v / 10 ^ w % 10<10:=eQ _ (by decide);simp only[qGE];rw[xO,zFA w v,qMH,qGD h,Nat.mod_pow_succ,fK (10 ^ w)];rw[show 48+v / 10 ^ w % 10-48=v / 10 ^ w % 10 by omega];omega
def jC (neg:Bool) (v scale:Nat):Dc × Int:=yA neg (Lib.decDigits v) scale
theorem qMJ (u:Nat):zY (Lib.decDigits u)=u:=by
 induction u using Nat.strongRecOn with
 | _ u ih =>
  rw[Lib.decDigits];split
  ·rename_i h;simp only[zY,fH,List.foldl_nil,qGD h];omega
  rename_i h;rw[qNB,ih (u / 10) (by omega),qGD (eQ _ (by decide))];omega
theorem qHU (u:Nat):(Lib.decDigits u).all qO=true:=by
 induction u using Nat.strongRecOn with
 | _ u ih =>
  rw[Lib.decDigits];split
  ·rename_i h;simp only[eF,List.all_nil,gP];rw[kY,qGD h];omega
  rename_i h;rw[dJ,ih (u / 10) (by omega)];simp only[eF,List.all_nil,gP,Bool.true_and];rw[kY,qGD (eQ _ (by decide))];omega
theorem qEF:∀ s:List UInt8,zY (zA s)=zY s
 | []=>rfl
 | b::s=>by
  unfold zA;rw[eH];by_cases h:b=48
  ·subst h;simp only[beq_self_eq_true,if_true];have:=qEF s;unfold zA at this;rw[this,xO];simp
  rw[bD (by simpa using h)]
theorem qFO (s:List UInt8) (h:0<(zA s).length):qS (zA s) 0≠48:=by
 unfold zA at h ⊢;have:=List.head?_dropWhile_not (fun b:UInt8=>b == 48) s;cases hs:s.dropWhile (fun b=>b == 48)with
 | nil=>rw[hs]at h;simp at h
 | cons b r =>
  rw[hs]at this;simp only[iG]at this;have hb:¬ b=48:=by simpa using this
  unfold qS;simp only[List.getD_cons_zero];intro e;exact hb (dU.1 (by show b.toNat=48;omega))
theorem qBT {s:List UInt8} (h:s.all qO=true):(zA s).all qO=true:=by
 rw[bR]at h ⊢;exact fun b hb=>h b ((dF _).subset hb)
theorem zCH {x y:List UInt8} (hx:x.all qO=true) (hy:y.all qO=true) (h:zY x=zY y):zA x=zA y:=by
 rw[<-qEF x,<-qEF y]at h;have z:∀ s:List UInt8,s.all qO=true->0<(zA s).length->zY (zA s)≠0:=fun s hs hl e=>by
  have:=qCE (qBT hs) hl (qFO s hl);have:=gJ (n:=(zA s).length-1) (show 0<10 by omega);omega
 by_cases h1:0<(zA x).length
 ·by_cases h2:0<(zA y).length
  ·exact zUJ _ _ (zTH (qBT hx) (qBT hy) h1 h2 (qFO x h1) (qFO y h2) h) (qBT hx) (qBT hy) h
  have e:zA y=[]:=eR.1 (by omega);rw[e]at h;exact absurd h (z x hx h1)
 have e:zA x=[]:=eR.1 (by omega);by_cases h2:0<(zA y).length
 ·rw[e]at h;exact absurd h.symm (z y hy h2)
 rw[e,eR.1 (show(zA y).length=0 by omega)]
theorem qLT (neg:Bool) {s:List UInt8} (h:s.all qO=true) (sc:Nat):yA neg s sc=jC neg (zY s) sc:=by
 unfold jC yA;rw[zCH h (qHU (zY s)) (qMJ _).symm]
def vO (l m:List Nat):Nat->List Nat × Nat
 | 0=>([],0)
 | i+1=>((vO l m i).1++[(l.getD i 0+m.getD i 0+(vO l m i).2) % qV],(l.getD i 0+m.getD i 0+(vO l m i).2) / qV)
def zBB (l m:List Nat):List Nat:=yY ((vO l m (max l.length m.length)).1++[(vO l m (max l.length m.length)).2])
theorem qDN {l:List Nat} (h:okL l) (i:Nat):l.getD i 0<qV:=by
 rw[bJ];cases hi:l[i]? with
 | none=>simp[qV]
 | some x=>exact h x (bH hi)
theorem qLE {l:List Nat} (i:Nat):zB (l.take (i+1))=zB (l.take i)+qV ^ i * l.getD i 0:=by
 by_cases h:i<l.length
 ·rw[qJY h,xK,cK,fV (by omega)]
 rw[bK (by omega),bK (by omega)];simp[bJ,cL (show l.length<=i by omega)]
theorem qIJ (l m:List Nat):∀ i,(vO l m i).1.length=i
 | 0=>rfl
 | i+1=>by simp[vO,qIJ l m i]
theorem qON {l m:List Nat} (hl:okL l) (hm:okL m):∀ i,okL (vO l m i).1/\(vO l m i).2<=1/\zB (vO l m i).1+qV ^ i * (vO l m i).2=zB (l.take i)+zB (m.take i)
 | 0=>⟨(by intro x hx;cases hx),by simp[vO],by simp[vO,zB]⟩
 | i+1=>by
  obtain⟨h1,h2,h3⟩:=qON hl hm i;have hlen:=qIJ l m i;have a1:=qDN hl i;have a2:=qDN hm i;rw[qLE,qLE];simp only[vO];generalize vO l m i=A at *;generalize l.getD i 0=x at *;generalize m.getD i 0=y at *;have hd:=Nat.div_add_mod (x+y+A.2) qV;have hb:0<qV:=by decide
  refine⟨?_, ?_, ?_⟩
  ·intro z hz;rcases bL.1 hz with h|h
   ·exact h1 z h
   rw[cG.1 h];exact eQ _ hb
  ·have:(x+y+A.2) / qV<2:=(gR hb).2 (by omega);omega
  rw[xK,hlen,eZ];have e:qV ^ i * ((x+y+A.2) % qV)+qV ^ i * qV * ((x+y+A.2) / qV)=qV ^ i * (x+y+A.2):=by
   rw[gQ,<-eW,fY,hd]
  have e2:qV ^ i * (x+y+A.2)=qV ^ i * x+qV ^ i * y+qV ^ i * A.2:=by rw[eW,eW]
  omega
theorem zQQ {l m:List Nat} (hl:okL l) (hm:okL m):okL (zBB l m)/\zB (zBB l m)=zB l+zB m:=by
 obtain⟨h1,h2,h3⟩:=qON hl hm (max l.length m.length);have hlen:=qIJ l m (max l.length m.length);unfold zBB;refine⟨qNE ?_, ?_⟩
 ·intro z hz;rcases bL.1 hz with h|h
  ·exact h1 z h
  rw[cG.1 h];unfold qV;omega
 rw[qJU,xK,hlen,h3,bK (by omega),bK (by omega)]
theorem qRJ (l:List Nat):(yY l).length<=l.length:=by
 unfold yY;rw[gE];have:=(dF (fun x:Nat=>x == 0) (l:=l.reverse)).length_le;simpa using this
theorem zVQ (l m:List Nat):(zBB l m).length<=max l.length m.length+1:=by
 unfold zBB;have:=qRJ ((vO l m (max l.length m.length)).1++[(vO l m (max l.length m.length)).2]);rw[bU,qIJ]at this;simpa using this
def uC (l m:List Nat):Nat->List Nat × Nat
 | 0=>([],0)
 | i+1=>((uC l m i).1++[(l.getD i 0+qV-m.getD i 0-(uC l m i).2) % qV],1-(l.getD i 0+qV-m.getD i 0-(uC l m i).2) / qV)
def qYU (l m:List Nat):List Nat:=yY (uC l m l.length).1
theorem qHD (l m:List Nat):∀ i,(uC l m i).1.length=i
 | 0=>rfl
 | i+1=>by simp[uC,qHD l m i]
theorem qNG {l m:List Nat} (hl:okL l) (hm:okL m):∀ i,okL (uC l m i).1/\(uC l m i).2<=1/\zB (uC l m i).1+zB (m.take i)=zB (l.take i)+qV ^ i * (uC l m i).2
 | 0=>⟨(by intro x hx;cases hx),by simp[uC],by simp[uC,zB]⟩
 | i+1=>by
  obtain⟨h1,h2,h3⟩:=qNG hl hm i;have hlen:=qHD l m i;have a1:=qDN hl i;have a2:=qDN hm i;rw[qLE,qLE];simp only[uC];generalize uC l m i=A at *;generalize l.getD i 0=x at *;generalize m.getD i 0=y at *;generalize hz:x+qV-y-A.2=z;have hd:=Nat.div_add_mod z qV;have hb:0<qV:=by decide
  have hq:z / qV<2:=(gR hb).2 (by omega);refine⟨?_,Nat.sub_le _ _, ?_⟩
  ·intro w hw;rcases bL.1 hw with h|h
   ·exact h1 w h
   rw[cG.1 h];exact eQ _ hb
  rw[xK,hlen,eZ];have e:qV ^ i * (z % qV)+qV ^ i * qV * (z / qV)=qV ^ i * z:=by
   rw[gQ,<-eW,fY,hd]
  have e2:qV ^ i * z+qV ^ i * y+qV ^ i * A.2=qV ^ i * x+qV ^ i * qV:=by
   rw[<-eW,<-eW,<-eW];congr 1;omega
  have e3:qV ^ i * qV * (1-z / qV)+qV ^ i * qV * (z / qV)=qV ^ i * qV:=by
   rw[<-eW];generalize z / qV=q at *;rw[show 1-q+q=1 by omega,eB]
  omega
theorem qVT {l m:List Nat} (hl:okL l) (hm:okL m) (hlen:m.length<=l.length) (h:zB m<=zB l):okL (qYU l m)/\zB (qYU l m)=zB l-zB m:=by
 obtain⟨h1,h2,h3⟩:=qNG hl hm l.length;have hlt:=qHM h1;rw[qHD]at hlt;rw[bK (bP _),bK hlen]at h3;have h0:(uC l m l.length).2=0:=by
  rcases eP (uC l m l.length).2 with h0|h0
  ·exact h0
  have:(uC l m l.length).2=1:=by omega
  rw[this,eB]at h3;omega
 rw[h0,Nat.mul_zero]at h3;unfold qYU;exact⟨qNE h1,by rw[qJU];omega⟩
theorem zCF (l m:List Nat):(qYU l m).length<=l.length:=by
 unfold qYU;have:=qRJ (uC l m l.length).1;rwa [qHD]at this
theorem zAB (l:List Nat) (i:Nat):AFn Tryz.prog G 207 [.sl 1 (l.map wU),.int .i64 i] (.int .u64 (l.getD i 0:Nat)):=by
 refine AFn.introU tok Tryz.func207 (by kernel_rfl) rfl rfl ?_;simp only[Tryz.f207,qG,bA,bC];refine rgn [] [[0,1]] ?_;refine op3 ?_;refine qA (AW.seq (rgn [] [[],[],[],[0,1,8]] ?_));iterate 4 refine op3 ?_
 refine qA (cnd ?_ ?_)
 ·intro h8;try simp at h8
  obtain⟨x,hx⟩:∃ x,l[i]?=some x:=⟨l[i]'(by omega),cI _⟩;rw[show l.getD i 0=x by rw[bJ,hx];rfl];refine rgn [.int .u64 (x:Nat)] [[],[],[11],[],[4]] ?_;iterate 5 refine op3 ?_ (hv:=by first|exact True.intro|((simp[hx];try omega);done)|omega|simp)
  exact qA (AW.ret qI)
 intro h8;try simp at h8
 rw[show l.getD i 0=0 by rw[bJ,cL (by omega)];rfl];refine AW.skip (rgn [] [[]] ?_);refine op3 ?_;exact qA (AW.ret qI)
theorem zXT (l m:List Nat) (hl:okL l) (hm:okL m) (h1:l.length<=1000000) (h2:m.length<=1000000):AFn Tryz.prog G 170 [.sl 1 (l.map wU),.sl 1 (m.map wU)] (.sl 1 ((zBB l m).map wU)):=by
 refine AFn.introU tok Tryz.func170 (by kernel_rfl) rfl rfl ?_;simp only[Tryz.f170,qG,bA,bC];refine rgn [] [[0,1]] ?_;refine op3 ?_;refine qA (rgn [] [[]] ?_);refine op3 ?_;refine qA (rgn [] [[]] ?_);refine op3 ?_;refine qA (AW.seq (rgn [] [[],[],[],[],[0,1,5,6,13],[]] ?_));iterate 6 refine op3 ?_
 refine qA (AW.block ?_);refine lJ 5 90 24 1 (by simp) (by simp) (by conv=>lhs;simp) ?_;refine AW.loop (α:=Nat) (fun k=>k<=max l.length m.length) (fun k=>⟨qZ 39 [(0,.p (.sl 1 (l.map wU))),(1,.p (.sl 1 (m.map wU))),(5,.ms 90),(6,.p (.int .u64 ((vO l m k).2:Nat))),(13,.p (.int .i64 (max l.length m.length:Nat))),(14,.p (.int .i64 k))],[],[(90,.row 24 1 ((vO l m k).1.map wU))],0⟩) (fun k=>max l.length m.length-k) (0) (by omega) ⟨qE (by simp[vO];split <;> omega),rfl,by simp[vO],by simp[vO]⟩ ?_;rintro k hk;obtain⟨s1,s2,s3⟩:=qON hl hm k;have sl:=qIJ l m k;have g1:=qDN hl k;have g2:=qDN hm k;unfold qV at g1 g2;refine rgn [] [[]] ?_;refine op3 ?_;refine qA (AW.seq (cnd ?_ ?_))
 ·intro h15;try simp at h15
  have hk':k<max l.length m.length:=by omega
  have lv1:=zAB (G:=G) l k;have lv2:=zAB (G:=G) m k;have hst:vO l m (k+1)=((vO l m k).1++[(l.getD k 0+m.getD k 0+(vO l m k).2) % qV],(l.getD k 0+m.getD k 0+(vO l m k).2) / qV):=rfl;generalize vO l m k=A at *;generalize l.getD k 0=x at *;generalize m.getD k 0=y at *;have w1:IntKind.u64.wrap ((x:Int)+y)=(x:Int)+y:=kV (by omega) (by omega);obtain⟨z,hz⟩:∃ z,z=x+y+A.2:=⟨_,rfl⟩;rw[<-hz]at hst;have w2:IntKind.u64.wrap ((x:Int)+y+A.2)=(z:Int):=by rw[kV (by omega) (by omega)];omega
  have dm:(z:Int).tmod 1000000000=((z % qV:Nat):Int):=(iI z 1000000000).symm;have dq:IntKind.u64.wrap ((z:Int) / 1000000000)=((z / qV:Nat):Int):=by
   unfold qV;rw[kV (by omega) (by omega)];omega
  generalize z % qV=r at *;generalize z / qV=q at *;refine AW.skip (AW.seq (AW.block (rgn [] [[],[0,1,5,6,7,13,14]] ?_)));iterate 2 refine op3 ?_
  refine qA (rgn [.nilp,.int .u64 (x:Nat),.nilp,.int .u64 (y:Nat)] [[],[],[],[],[],[0,1,5,6,13,14,19,22],[],[],[0,1,5,13,14,25],[0,1,5,8,13,14]] ?_);iterate 10 refine oq1 tok (ai lv1 lv2) ?_ (h:=by intro C;conv=>lhs;simp[w1,w2])
  refine qA (rgz [.int .u64 (r:Nat)] [[],[],[],[],[0,1,8,13,14,30],[],[],[],[0,1,5,6,13,14]] ?_);iterate 9 refine op3 ?_ (h:=by intro C;conv=>lhs;simp[dm,dq]) (hv:=by first|exact True.intro|((simp[dm]);done)|omega|simp)
  refine qA (rgz [] [[],[0,1,5,6,13,14]] ?_);iterate 2 refine op3 ?_
  refine qA ?_;exact⟨k+1,by omega,by omega,qE (by simp[hst]),rfl,by simp[hst],by simp[hst]⟩
 intro h15;try simp at h15
 obtain rfl:k=max l.length m.length:=by omega
 have htr:=qYR (G:=G) ((vO l m (max l.length m.length)).1++[(vO l m (max l.length m.length)).2]);rw[show yY ((vO l m (max l.length m.length)).1++[(vO l m (max l.length m.length)).2])=zBB l m from rfl]at htr;simp only[fW,bA,bC,wU]at htr;refine AW.exit ?_;simp;refine rgn [.int .u64 ((vO l m (max l.length m.length)).2:Nat),.nilp,.sl 1 ((zBB l m).map wU)] [[],[],[],[37],[],[4]] ?_;iterate 6 refine oq1 tok htr ?_ (h:=by intro C;conv=>lhs;simp[fW])
 exact qA (AW.ret qI)
theorem qWN (l m:List Nat) (hl:okL l) (hm:okL m) (h1:l.length<=1000000) (h2:m.length<=1000000):AFn Tryz.prog G 172 [.sl 1 (l.map wU),.sl 1 (m.map wU)] (.sl 1 ((qYU l m).map wU)):=by
 refine AFn.introU tok Tryz.func172 (by kernel_rfl) rfl rfl ?_;simp only[Tryz.f172,qG,bA,bC];refine rgn [] [[0,1]] ?_;refine op3 ?_;refine qA (rgn [] [[]] ?_);refine op3 ?_;refine qA (rgn [] [[]] ?_);refine op3 ?_;refine qA (AW.seq (rgn [] [[],[],[0,1,5,6,10,11]] ?_));iterate 3 refine op3 ?_
 refine qA (AW.block ?_);refine lJ 5 90 24 1 (by simp) (by simp) (by conv=>lhs;simp) ?_;refine AW.loop (α:=Nat) (fun k=>k<=l.length) (fun k=>⟨qZ 36 [(0,.p (.sl 1 (l.map wU))),(1,.p (.sl 1 (m.map wU))),(5,.ms 90),(6,.p (.int .u64 ((uC l m k).2:Nat))),(10,.p (.int .i64 l.length)),(11,.p (.int .i64 k))],[],[(90,.row 24 1 ((uC l m k).1.map wU))],0⟩) (fun k=>l.length-k) (0) (by omega) ⟨qE (by simp[uC]),rfl,by simp[uC],by simp[uC]⟩ ?_;rintro k hk;obtain⟨s1,s2,s3⟩:=qNG hl hm k;have sl:=qHD l m k;have g1:=qDN hl k;have g2:=qDN hm k;unfold qV at g1 g2;refine rgn [] [[]] ?_;refine op3 ?_;refine qA (AW.seq (cnd ?_ ?_))
 ·intro h12;try simp at h12
  have lv2:=zAB (G:=G) m k;obtain⟨x0,hgl⟩:∃ x,l[k]?=some x:=⟨l[k]'(by omega),cI _⟩;have hx0:l.getD k 0=x0:=by rw[bJ,hgl];rfl
  have hst:uC l m (k+1)=((uC l m k).1++[(l.getD k 0+qV-m.getD k 0-(uC l m k).2) % qV],1-(l.getD k 0+qV-m.getD k 0-(uC l m k).2) / qV):=rfl;generalize uC l m k=A at *;rw[hx0]at hst g1;generalize m.getD k 0=y at *;generalize x0=x at *;obtain⟨z,hz⟩:∃ z,z=x+qV-y-A.2:=⟨_,rfl⟩;rw[<-hz]at hst;have hzd:z / qV<=1:=by
   have:z / qV<2:=(gR (by decide)).2 (by rw[hz];unfold qV;omega);omega
  unfold qV at hz;have w1:IntKind.u64.wrap ((x:Int)+1000000000)=(x:Int)+1000000000:=kV (by omega) (by omega);have w2:IntKind.u64.wrap ((x:Int)+1000000000-y)=(x:Int)+1000000000-y:=kV (by omega) (by omega);have w3:IntKind.u64.wrap ((x:Int)+1000000000-y-A.2)=(z:Int):=by rw[kV (by omega) (by omega)];omega
  have dm:(z:Int).tmod 1000000000=((z % qV:Nat):Int):=(iI z 1000000000).symm;have dq:IntKind.u64.wrap ((z:Int) / 1000000000)=((z / qV:Nat):Int):=by
   unfold qV;rw[kV (by omega) (by omega)];omega
  generalize z % qV=r at *;generalize z / qV=q at *;have w4:IntKind.u64.wrap (1-(q:Int))=((1-q:Nat):Int):=by
   rw[kV (by omega) (by omega)];omega
  generalize 1-q=b at *;refine AW.skip (AW.seq (AW.block (rgn [] [[],[0,1,5,6,7,10,11]] ?_)));iterate 2 refine op3 ?_
  refine qA ?_;refine iU tok mixed 11 [[0],[7],[14,15],[16],[17],[1],[7],[19,20],[18,21],[6],[22,23]] [.int .u64 (x:Nat),.nilp,.int .u64 (y:Nat)] [] (by kernel_rfl) ?_;iterate 11 refine d1 ?_ (h:=by intro C;conv=>lhs;simp[w1,w2,w3]) (hv:=by first|exact True.intro|exact lv2|(simp[hgl];done)|(simp[hgl];omega);done|omega|simp)
  refine DGo.nil (by kernel_rfl) ⟨by kernel_rfl, ?_⟩;refine qB.run [[0,1,5,8,10,11]] ?_;refine op3 ?_ (h:=by intro C;conv=>lhs;simp[w1,w2,w3]);refine qA (rgz [.int .u64 (r:Nat)] [[],[],[],[],[0,1,8,10,11,29],[],[],[],[0,1,5,10,11,32],[0,1,5,6,10,11]] ?_);iterate 10 refine op3 ?_ (h:=by intro C;conv=>lhs;simp[dm,dq,w4]) (hv:=by first|exact True.intro|((simp[dm]);done)|omega|simp)
  refine qA (rgz [] [[],[0,1,5,6,10,11]] ?_);iterate 2 refine op3 ?_
  refine qA ?_;exact⟨k+1,by omega,by omega,qE (by simp[hst]),rfl,by simp[hst],by simp[hst]⟩
 intro h12;try simp at h12
 obtain rfl:k=l.length:=by omega
 have htr:=qYR (G:=G) (uC l m l.length).1;refine AW.exit ?_;simp;refine rgn [.nilp,.sl 1 ((qYU l m).map wU)] [[],[],[4]] ?_;iterate 3 refine oq1 tok htr ?_
 exact qA (AW.ret qI)
def uM (n w V:Nat):List PD:=qQ (List.replicate (n-w) 0++qGE w V)
theorem zFC (n V:Nat):uM n 0 V=List.replicate n (.int .u8 0):=by simp[uM,qGE,qQ]
theorem zIX {n w V:Nat} (h:w<=n):(uM n w V).length=n:=by simp[uM,qMH];omega
theorem zIY {n w V:Nat} (h:w<n):(uM n w V)[n-1-w]?=some (.int .u8 0):=by
 unfold uM;refine qCX (b:=0) ?_;rw[cW (by simp;omega),List.getElem?_replicate,bE (by omega)]
theorem zIW {n w V:Nat} (h:w<n):(uM n w V).set (n-1-w) (.int .u8 (48+V / 10 ^ w % 10:Nat))=uM n (w+1) V:=by
 unfold uM qQ;have hd:V / 10 ^ w % 10<10:=eQ _ (by decide);rw[show PD.int .u8 (48+V / 10 ^ w % 10:Nat)=(fun b:UInt8=>PD.int .u8 b.toNat) (UInt8.ofNat (48+V / 10 ^ w % 10)) by simp only[qGD hd],<-List.map_set];congr 1
 rw[show n-w=(n-(w+1))+1 by omega,eD,cD,List.set_append_right _ _ (by simp;omega)];simp only[List.length_replicate];rw[show n-1-w-(n-(w+1))=0 by omega];rfl
theorem zIZ (n V:Nat):uM n n V=qQ (qGE n V):=by simp[uM]
theorem zTF {l:List Nat} (h:okL l) (i:Nat):zB l / qV ^ i % qV=l.getD i 0:=by
 induction l generalizing i with
 | nil=>simp[zB]
 | cons a l ih =>
  have ha:a<qV:=h a (by simp);have ih:=ih (fun x hx=>h x (by simp[hx]));have hb:0<qV:=by decide
  cases i with
  | zero=>simp[zB,Nat.add_mul_mod_self_left,Nat.mod_eq_of_lt ha]
  | succ i =>
   simp only[zB,List.getD_cons_succ];rw[eZ,fK (qV ^ i),<-Nat.div_div_eq_div_mul,Nat.add_mul_div_left _ _ hb,Nat.div_eq_of_lt ha,dK];exact ih i
theorem zUI {l:List Nat} (h:okL l) (i:Nat) {j:Nat} (hj:j<9):zB l / 10 ^ (9 * i+j) % 10=l.getD i 0 / 10 ^ j % 10:=by
 rw[<-zTF h i,Nat.pow_add,Nat.pow_mul,<-Nat.div_div_eq_div_mul,show(10:Nat) ^ 9=qV from rfl];generalize zB l / qV ^ i=M;obtain⟨d,hd⟩:∃ d,d+j=8:=⟨8-j,by omega⟩;rw[show qV=10 ^ j * (10 * 10 ^ d) by rw[<-Nat.pow_succ',<-Nat.pow_add,show j+(d+1)=9 by omega];rfl,Nat.mod_mul_right_div_self,Nat.mod_mul_right_mod]
def qUO (x j:Nat):Nat:=x / 10 ^ j
theorem zNP (x:Nat):qUO x 0=x:=by simp[qUO]
theorem zNQ (x j:Nat):qUO x j / 10=qUO x (j+1):=by unfold qUO;rw[Nat.div_div_eq_div_mul,<-eZ]
theorem qOB (l:List Nat) (hl:okL l) (h1:l.length<=1000000):AFn Tryz.prog G 171 [.sl 1 (l.map wU)] (.str (qGE (9 * l.length) (zB l))):=by
 refine AFn.introU tok Tryz.func171 (by kernel_rfl) rfl rfl ?_;simp only[Tryz.f171,qG,bA,bC];have hz:uM (9 * l.length) 0 (zB l)=List.replicate (9 * l.length) (.int .u8 0):=zFC _ _;have hall:=zIZ (9 * l.length) (zB l);have hdl:=fun k j (h:j<9)=>zUI hl k (j:=j) h;have hset:=fun w=>zIW (n:=9 * l.length) (w:=w) (V:=zB l);have hget:=fun w=>zIY (n:=9 * l.length) (w:=w) (V:=zB l);have hlen:=fun w=>zIX (n:=9 * l.length) (w:=w) (V:=zB l);have hmul:((l.length:Int) * 9).toNat=9 * l.length:=by omega
 generalize zB l=V at *;obtain⟨N,hN⟩:∃ N,N=9 * l.length:=⟨_,rfl⟩;rw[<-hN]at hz hall hset hget hlen hmul ⊢;refine rgn [] [[0]] ?_;refine op3 ?_;refine qA (rgn [.int .u8 0] [[],[],[],[],[0,3]] ?_);iterate 5 refine op3 ?_
 refine qA (AW.seq (rgn [] [[],[],[3,11,12,13]] ?_));iterate 3 refine op3 ?_
 refine qA (AW.block ?_);refine AW.loop (α:=Nat) (fun k=>k<=l.length) (fun k=>⟨qZ 41 [(3,.ms 10),(11,.p (.sl 1 (l.map wU))),(12,.p (.int .i64 l.length)),(13,.p (.int .i64 k))],[],[(10,.row 5 1 (uM N (9 * k) V))],0⟩) (fun k=>l.length-k) (0) (by omega) ⟨qE (by simp),rfl,by(simp[hz,hmul]),by simp[hz,hmul]⟩ ?_;rintro k hk;refine rgn [] [[]] ?_;refine op3 ?_;refine qA (AW.seq (cnd ?_ ?_))
 ·intro h14;try simp at h14
  obtain⟨x,hx⟩:∃ x,l[k]?=some x:=⟨l[k]'(by omega),cI _⟩;have hxd:l.getD k 0=x:=by rw[bJ,hx];rfl
  have hxb:x<1000000000:=hl x (bH hx);have hx0:=zNP x;refine AW.skip (AW.seq (AW.block (rgn [.int .u64 (x:Nat)] [[],[],[],[],[3,4,5,11,12,13]] ?_)));iterate 5 refine op3 ?_ (hv:=by first|exact True.intro|(simp[hx];done)|omega|simp)
  refine qA (rgn [] [[]] ?_);refine op3 ?_;refine qA (AW.block ?_);refine AW.loop (α:=Nat) (fun j=>j<=9) (fun j=>⟨qZ 41 [(3,.ms 10),(4,.p (.int .i64 k)),(5,.p (.int .u64 (qUO x j:Nat))),(11,.p (.sl 1 (l.map wU))),(12,.p (.int .i64 l.length)),(13,.p (.int .i64 k)),(18,.p (.int .i64 j))],[],[(10,.row 5 1 (uM N (9 * k+j) V))],0⟩) (fun j=>9-j) (0) (by omega) ⟨qE (by simp[hx0]),rfl,by simp,by simp⟩ ?_;rintro j hj;refine rgn [] [[]] ?_;refine op3 ?_;refine qA (AW.seq (cnd ?_ ?_))
  ·intro h19;try simp at h19
   have hdj:=hdl k j (by omega);rw[hxd,show x / 10 ^ j=qUO x j from rfl]at hdj;have hset:=hset (9 * k+j) (by omega);have hget:=hget (9 * k+j) (by omega);have hlen:=hlen (9 * k+j) (by omega);rw[hdj]at hset;have hxj:qUO x j<1000000000:=Nat.lt_of_le_of_lt (Nat.div_le_self _ _) hxb;have hnx:=zNQ x j;generalize qUO x j=z at *;have hix:((N:Int)-1-k * 9).toNat-j=N-1-(9 * k+j):=by omega
   have dm:(z:Int).tmod 10=((z % 10:Nat):Int):=(iI z 10).symm;have dc:IntKind.u8.wrap (IntKind.u64.wrap (48+((z % 10:Nat):Int)))=((48+z % 10:Nat):Int):=by
    rw[kV (by omega) (by omega),zJZ (by omega) (by omega)];omega
   have dq:IntKind.u64.wrap ((z:Int) / 10)=((qUO x (j+1):Nat):Int):=by rw[<-hnx,kV (by omega) (by omega)];omega
   generalize hr:z % 10=r at *;have e9:9 * k+j+1=9 * k+(j+1):=rfl;rw[e9,show((48+r:Nat):Int)=48+(r:Int) by omega]at hset;refine AW.skip (AW.seq (AW.block (rgn [] [[],[3,4,5,6,11,12,13,18]] ?_)));iterate 2 refine op3 ?_
   refine qA (rgn [.int .u8 0,.int .u8 (48+r:Nat)] [[],[],[],[],[],[],[3,4,5,6,11,12,13,18,21,27],[],[],[],[3,4,5,11,12,13,18,21,29,31],[],[],[3,4,5,11,12,13,18,33,34],[3,4,5,11,12,13,18]] ?_);iterate 15 refine op3 ?_ (h:=by intro C;conv=>lhs;simp[hlen,hget,hix,dm,dc]) (hv:=by first|exact True.intro|(simp[hlen,hget,hix,dm,dc];done)|(simp[hlen,hget,hix,dm,dc];omega);done|omega|simp)
   refine qA (rgz [] [[],[],[3,4,5,11,12,13,18]] ?_);iterate 3 refine op3 ?_
   refine qA (rgz [] [[],[3,4,5,11,12,13,18]] ?_);iterate 2 refine op3 ?_
   refine qA ?_;exact⟨j+1,by omega,by omega,qE (by simp[dq,hset,hlen,hix]),rfl,by simp[dq,hset,hlen,hix],by simp[dq,hset,hlen,hix]⟩
  intro h19;try simp at h19
  obtain rfl:j=9:=by omega
  refine AW.exit ?_;simp;refine rgz [] [[],[3,11,12,13]] ?_;iterate 2 refine op3 ?_
  refine qA ?_;exact⟨k+1,by omega,by omega,qE (by simp[show 9 * (k+1)=9 * k+9 from rfl]),rfl,by simp[show 9 * (k+1)=9 * k+9 from rfl],by simp[show 9 * (k+1)=9 * k+9 from rfl]⟩
 intro h14;try simp at h14
 obtain rfl:k=l.length:=by omega
 rw[<-hN,hall];refine AW.exit ?_;simp;refine rgn [.str (qGE N V)] [[],[],[2]] ?_;iterate 3 refine op3 ?_
 exact qA (AW.ret qI)
theorem zIV {l:List Nat} (h:okL l):zY (qGE (9 * l.length) (zB l))=zB l:=by
 rw[zFA,Nat.mod_eq_of_lt];rw[Nat.pow_mul];exact qHM h
theorem qKG (neg:Bool) {l:List Nat} (hl:okL l) (h:l.length<=1000000) (sc:Nat) (hs:sc<=1000000) :
  AFn Tryz.prog G 95 [.bool neg,.str (qGE (9 * l.length) (zB l)),.int .i64 sc] (.tup [(jC neg (zB l) sc).1.enc,.int .i64 (jC neg (zB l) sc).2]):=by
 have:=qQM (G:=G) neg (qGE (9 * l.length) (zB l)) sc (by rw[qMH];omega) (by omega);rwa [qLT neg (zFB _ _),zIV hl]at this
def qQZ (a b:Dc):Nat:=zY (jU a (wA a b))
def qQY (a b:Dc):Nat:=zY (jU b (wA a b))
def qJF (a b:Dc):Dc × Int :=
 if a.neg=b.neg then jC a.neg (qQZ a b+qQY a b) (wA a b).toNat
 else if qQY a b<=qQZ a b then jC a.neg (qQZ a b-qQY a b) (wA a b).toNat else jC b.neg (qQY a b-qQZ a b) (wA a b).toNat
theorem zOR {l m:List Nat} (hl:qQC l) (hm:qQC m):(0<=vR l m)↔zB m<=zB l:=by
 have h:=qPE hl hm;unfold sgn at h;constructor
 ·intro h0;rw[bD (show ¬ vR l m<0 by omega)]at h;split at h <;> split at h <;> (try split at h) <;> omega
 intro h0;rw[bD (show ¬ ((zB l:Int)-zB m<0) by omega)]at h;split at h <;> split at h <;> (try split at h) <;> omega
theorem zMG {l m:List Nat} (hl:qQC l) (hm:qQC m) (h:zB m<=zB l):m.length<=l.length:=by
 apply fO;intro h2;have:=qTA hl hm h2;omega
theorem qYJ (a b:Dc) (ha:okD a) (hb:okD b):AFn Tryz.prog G 131 [a.enc,b.enc] (.tup [(qJF a b).1.enc,.int .i64 (qJF a b).2]):=by
 refine AFn.introU tok Tryz.func131 (by kernel_rfl) rfl rfl ?_;simp only[Tryz.f131,qG,bA,bC];have hal:=qUH (G:=G) a b ha hb;obtain⟨a1,a2,a3,a4⟩:=ha;obtain⟨b1,b2,b3,b4⟩:=hb;have hm3:wA a b<=1000:=by unfold wA;split <;> omega
 have hm0:0<=wA a b:=by unfold wA;split <;> omega
 have hx:=qLW (qBM a4 (wA a b-a.scale).toNat);have hy:=qLW (qBM b4 (wA a b-b.scale).toNat);have vx:=qLV (qBM a4 (wA a b-a.scale).toNat);have vy:=qLV (qBM b4 (wA a b-b.scale).toNat);have lx:(xY (jU a (wA a b))).length<=2000:=by have:=qSV (jU a (wA a b));simp[jU]at *; omega
 have ly:(xY (jU b (wA a b))).length<=2000:=by have:=qSV (jU b (wA a b));simp[jU]at *; omega
 have hD:qJF a b=if a.neg=b.neg then jC a.neg (qQZ a b+qQY a b) (wA a b).toNat else if qQY a b<=qQZ a b then jC a.neg (qQZ a b-qQY a b) (wA a b).toNat else jC b.neg (qQY a b-qQZ a b) (wA a b).toNat:=rfl
 rw[show qQZ a b=zB (xY (jU a (wA a b))) from vx.symm,show qQY a b=zB (xY (jU b (wA a b))) from vy.symm]at hD;rw[hD];change qQC (xY (jU a (wA a b)))at hx
 change qQC (xY (jU b (wA a b)))at hy
 clear vx vy hD
 generalize xY (jU a (wA a b))=x at *;generalize xY (jU b (wA a b))=y at *;obtain⟨sc,hsc⟩:∃ sc:Nat,wA a b=sc:=⟨(wA a b).toNat,by omega⟩;rw[hsc]at hal ⊢;rw[Int.toNat_natCast];have hcm:=qWK (G:=G) x y (by omega) (by omega);have hge:=zOR hx hy;generalize vR x y=c at *;have hp:=zXT (G:=G) x y hx.1 hy.1 (by omega) (by omega);obtain⟨op,vp⟩:=zQQ hx.1 hy.1;have lp:=zVQ x y;generalize zBB x y=p at *;have dp:=qOB (G:=G) p op (by omega);have mp:=qKG (G:=G) a.neg op (by omega) sc (by omega);have hq:=qWN (G:=G) x y hx.1 hy.1 (by omega) (by omega);have sq:=fun h=>qVT hx.1 hy.1 (zMG hx hy h) h;have lq:=zCF x y;generalize qYU x y=q at *;have hr:=qWN (G:=G) y x hy.1 hx.1 (by omega) (by omega);have sr:=fun h=>qVT hy.1 hx.1 (zMG hy hx h) h;have lr:=zCF y x;generalize qYU y x=r at *;refine rgn [] [[],[],[],[2,3,4]] ?_;iterate 4 refine op3 ?_
 refine qA (rgn [.nilp,.tup [.sl 1 (x.map wU),.sl 1 (y.map wU),.int .i64 sc]] [[],[],[],[],[],[],[2,3,4,13,14,15],[],[],[2,3,4,6,7,8]] ?_);iterate 10 refine oq1 tok hal ?_
 refine qA (AW.seq (AW.block (rgn [] [[],[],[],[],[2,3,4,6,7,8,21],[2,3,4,6,7,8,16]] ?_)));iterate 6 refine op3 ?_
 refine qA (cnd ?_ ?_)
 ·intro h16;try simp at h16
  rw[bE h16,<-vp];generalize qGE (9 * p.length) (zB p)=dg at *;generalize jC a.neg (zB p) sc=R at *;refine iU tok mixed 10 [[2],[22],[6],[7],[24,25],[26],[8],[23,27,28],[29],[29]] [.nilp,.sl 1 (p.map wU),.nilp,.str dg,.nilp,.tup [R.1.enc,.int .i64 R.2]] [] (by kernel_rfl) ?_;iterate 10 refine dq1 (ai hp (ai dp mp)) ?_
  refine DGo.nil (by kernel_rfl) ⟨by kernel_rfl, ?_⟩;refine qB.run [[],[4,5]] ?_;iterate 2 refine op3 ?_
  exact qA (AW.ret qI)
 intro h16;try simp at h16
 rw[bD h16];refine rgn [.nilp,.int .i64 c] [[],[],[],[],[2,3,4,6,7,8,32]] ?_;iterate 5 refine oq1 tok hcm ?_
 refine qA (cnd ?_ ?_)
 ·intro h32;try simp at h32
  obtain⟨oq,vq⟩:=sq (hge.1 h32);rw[bE (hge.1 h32),<-vq];have dq:=qOB (G:=G) q oq (by omega);have mq:=qKG (G:=G) a.neg oq (by omega) sc (by omega);generalize qGE (9 * q.length) (zB q)=dg at *;generalize jC a.neg (zB q) sc=R at *;refine iU tok mixed 10 [[2],[37],[6],[7],[39,40],[41],[8],[38,42,43],[44],[44]] [.nilp,.sl 1 (q.map wU),.nilp,.str dg,.nilp,.tup [R.1.enc,.int .i64 R.2]] [] (by kernel_rfl) ?_;iterate 10 refine dq1 (ai hq (ai dq mq)) ?_
  refine DGo.nil (by kernel_rfl) ⟨by kernel_rfl, ?_⟩;refine qB.run [[],[4,5]] ?_;iterate 2 refine op3 ?_
  exact qA (AW.ret qI)
 intro h32;try simp at h32
 have hlt:¬ zB y<=zB x:=fun h=>by have:=hge.2 h;omega
 obtain⟨or,vr⟩:=sr (by omega);rw[bD hlt,<-vr];have dr:=qOB (G:=G) r or (by omega);have mr:=qKG (G:=G) b.neg or (by omega) sc (by omega);generalize qGE (9 * r.length) (zB r)=dg at *;generalize jC b.neg (zB r) sc=R at *;refine AW.skip ?_;refine iU tok mixed 10 [[3],[47],[7],[6],[49,50],[51],[8],[48,52,53],[54],[54]] [.nilp,.sl 1 (r.map wU),.nilp,.str dg,.nilp,.tup [R.1.enc,.int .i64 R.2]] [] (by kernel_rfl) ?_;iterate 10 refine dq1 (ai hr (ai dr mr)) ?_
 refine DGo.nil (by kernel_rfl) ⟨by kernel_rfl, ?_⟩;refine qB.run [[],[4,5]] ?_;iterate 2 refine op3 ?_
 exact qA (AW.ret qI)
theorem zZM (v:Val) (ks:List Int):AFn Tryz.prog G 168 [v.enc,.ref [.sl 1 (ks.map (PD.int .i64))]] (.bool (!decide (v.kind∈ks))):=by
 refine AFn.introU tok Tryz.func168 (by kernel_rfl) rfl rfl ?_;simp only[Tryz.f168,qG,bA,bC];have h1:=zTY (G:=G) ks v.kind;generalize decide (v.kind∈ks)=b at *;refine rgn [] [[],[1,2]] ?_;iterate 2 refine op3 ?_
 refine qA (rgn [.nilp,.bool b] [[],[],[],[7],[],[3]] ?_);iterate 6 refine oq1 tok h1 ?_
 exact qA (AW.ret qI)
def qJE (l:List Val) (ks:List Int):Bool:=l.all fun v=>decide (v.kind∈ks)
theorem zJS (l:List Val) (ks:List Int):AFn Tryz.prog G 130 [.sl 9 (l.map Val.enc),.sl 1 (ks.map (PD.int .i64))] (.bool (qJE l ks)):=by
 refine AFn.introU tok Tryz.func130 (by kernel_rfl) rfl rfl ?_;simp only[Tryz.f130,qG,bA,bC];have hc:=qJO (G:=G) l 168 [.sl 1 (ks.map (PD.int .i64))] (fun v => !decide (v.kind∈ks)) (fun v _=>zZM v ks);have e:qJE l ks = !(l.any fun v => !decide (v.kind∈ks)):=by unfold qJE;rw[List.not_any_eq_all_not];simp
 rw[e];generalize (l.any fun v => !decide (v.kind∈ks))=r at *;refine rgn [] [[],[0,3]] ?_;iterate 2 refine op3 ?_
 refine qA ?_;refine AW.freezeV 3 (by conv=>lhs;simp) ?_;refine rgn [.nilp,.bool r] [[],[],[7],[],[4]] ?_;iterate 5 refine op3 ?_ (hv:=by first|exact True.intro|exact hc|(simp;done)|(simp at hc ⊢; exact hc);done|omega|simp)
 exact qA (AW.ret qI)
def qBD (l:List Val) (sep:List UInt8) (m:Int):Val:=if qJE l [5,1]=true then wM (Lib.join (l.map Val.text) sep) m else qR 40 m
theorem zDV (l:List Val) (sep:List UInt8) (m:Int) (hl:l.length<=1000000) (hj:(Lib.join (l.map Val.text) sep).length<=1000000000):AFn Tryz.prog G 91 [.agg [.int .u64 m],.sl 9 (l.map Val.enc),.str sep] ((qBD l sep m).enc):=by
 refine AFn.introU tok Tryz.func91 (by kernel_rfl) rfl rfl ?_;simp only[Tryz.f91,qG,bA,bC];have hf:=zX (G:=G) 40 m;have ha:=zJS (G:=G) l [5,1];have hw:=qEO (G:=G) (Lib.join (l.map Val.text) sep) m;have hJ:=zMR (G:=G) (l.map Val.text) sep (by simp;omega) (by omega);have e:qBD l sep m=if qJE l [5,1]=true then wM (Lib.join (l.map Val.text) sep) m else qR 40 m:=rfl
 rw[e];have hle:(l.map Val.enc).length=l.length:=by simp
 have htl:(l.map Val.text).length=l.length:=by simp
 have htg:∀ (k:Nat) x,l[k]?=some x->(l.map Val.text)[k]?=some x.text:=fun k x h=>by rw[bG,h];rfl
 generalize qJE l [5,1]=b at *;generalize wM (Lib.join (l.map Val.text) sep) m=W at *;generalize Lib.join (l.map Val.text) sep=J at *;generalize l.map Val.text=ts at *;simp only[iK,bA,bC]at hf ha hw;refine rgn [] [[],[1,2,3,6]] ?_;iterate 2 refine op3 ?_
 refine qA (AW.seq (rgn [.int .i64 5,.int .i64 1,.nilp,.bool b] [[],[],[],[1,2,3,6,13]] ?_));iterate 4 refine oq1 tok ha ?_
 refine qA (cnd ?_ ?_)
 ·intro h13;try simp at h13
  rw[bD (by simp[h13])];refine rgn [.nilp,(qR 40 m).enc] [[],[],[6]] ?_;iterate 3 refine oq1 tok hf ?_
  exact qA (AW.ret qI)
 intro h13;try simp at h13
 rw[bE (by simpa using h13)];refine AW.skip (rgn [] [[]] ?_);refine op3 ?_;refine qA (AW.seq (rgn [] [[],[],[2,3,6,7,16,17,18]] ?_));iterate 3 refine op3 ?_
 refine qA (AW.block ?_);refine lJ 7 100 9 1 (by simp) (by simp) (by conv=>lhs;simp) ?_;refine AW.loop (α:=Nat) (fun k=>k<=l.length) (fun k=>⟨qZ 33 [(2,.p (.str sep)),(3,.ptr 3 0),(6,.ptr 6 0),(7,.ms 100),(16,.p (.sl 9 (l.map Val.enc))),(17,.p (.int .i64 l.length)),(18,.p (.int .i64 k))],[],[(3,.vars 61 [.p (.int .u64 m)]),(6,.vars 31 [.p (.int .i64 0),.p (.int .u64 0),.p (.bool false),.p (.str []),.p (.int .i64 0),.p (.str []),.nilsl,.nilsl,.p (.int .i64 0)]),(100,.row 9 1 ((ts.map PD.str).take k))],0⟩) (fun k=>l.length-k) (0) (by omega) ⟨qE (by simp),rfl,by simp,by simp⟩ ?_;rintro k hk;refine rgn [] [[]] ?_;refine op3 ?_;refine qA (AW.seq (cnd ?_ ?_))
 ·intro h19;try simp at h19
  obtain⟨x,hx⟩:∃ x,l[k]?=some x:=⟨l[k]'(by omega),by simp[show k<l.length by omega]⟩;have ht:=htg k x hx;have hgp:(ts.map PD.str)[k]?=some (.str x.text):=by rw[bG,ht];rfl
  have htk:(ts.map PD.str).take k++[.str x.text]=(ts.map PD.str).take (k+1):=by rw[bX,hgp];rfl
  refine AW.skip (AW.seq (AW.block (rgn [x.enc] [[],[],[],[2,3,6,7,9,16,17,18]] ?_)));iterate 4 refine op3 ?_ (hv:=by first|exact True.intro|(simp[hx];done)|(simp[hx];omega);done|omega|simp)
  refine qA (rgz [.str x.text] [[],[],[],[2,3,6,16,17,18,22,25],[],[2,3,6,7,16,17,18]] ?_);iterate 6 refine op3 ?_
  refine qA (rgz [] [[],[2,3,6,7,16,17,18]] ?_);iterate 2 refine op3 ?_
  refine qA ?_;exact⟨k+1,by omega,by omega,qE (by simp[htk]),rfl,by simp[htk],by simp[htk]⟩
 intro h19;try simp at h19
 obtain rfl:k=l.length:=by omega
 have hall:(ts.map PD.str).take l.length=ts.map PD.str:=bK (by simp[htl]);simp only[hall];refine AW.exit ?_;simp;refine lD 100 (by conv=>lhs;simp) ?_;refine iL tok mixed [6] 5 [[3],[7],[2],[29,30],[28,31]] [.nilp,.str J,.nilp,W.enc] [] (by kernel_rfl) (by intro C;conv=>lhs;simp) (by first|exact⟨hJ,hw⟩|omega|(simp;exact⟨hJ,hw⟩)) (by simp[Sm.sum,Sm.foot,Sm.tch,Sm.refs];kernel_rfl) (by intro C;conv=>lhs;simp) (by first|exact True.intro|omega|simp) ?_;exact AW.ret qI
theorem zOG (v:Val) (ih:∀ k∈v.kids,AFn Tryz.prog G 80 [k.enc] (.bool (qAS k))):AFn Tryz.prog G 80 [v.enc] (.bool (qAS v)):=by
 refine AFn.introU tok Tryz.func80 (by kernel_rfl) rfl rfl ?_;simp only[Tryz.f80,qG,bA,bC];have hc:=qML (G:=G) v.kids 80 qAS ih;rw[qFQ];generalize v.kids.any qAS=r at *;refine rgn [] [[],[1]] ?_;iterate 2 refine op3 ?_
 refine qA (rgn [.nilp,.bool r] [[],[],[],[],[6,7],[],[],[10],[2]] ?_);iterate 4 refine op3 ?_ (hv:=by first|exact True.intro|exact hc|exact fun h=>⟨h,hc⟩|(simp;exact fun h=>⟨h,hc⟩)|(simp;done);done|omega|simp)
 iterate 3 refine op4 ?_ (hv:=by first|exact True.intro|exact hc|exact fun h=>⟨h,hc⟩|(simp;exact fun h=>⟨h,hc⟩)|(simp;done);done|omega|simp)
 iterate 2 refine op3 ?_ (hv:=by first|exact True.intro|exact hc|exact fun h=>⟨h,hc⟩|(simp;exact fun h=>⟨h,hc⟩)|(simp;done);done|omega|simp)
 refine qA ?_;exact AW.ret (qI (k:=by(simp;done)))
theorem zSK (v:Val):AFn Tryz.prog G 80 [v.enc] (.bool (qAS v)):=iV (fun v ih=>zOG v ih) v
def qCS (v:Val) (m:Int):Val:=if qAS v=true then qR 40 m else wM (zG v) m
theorem zDU (v:Val) (m:Int) (hm:qU v=true) (hs:iR v<=10000):AFn Tryz.prog G 45 [.agg [.int .u64 m],v.enc] ((qCS v m).enc):=by
 refine AFn.introU tok Tryz.func45 (by kernel_rfl) rfl rfl ?_;simp only[Tryz.f45,qG,bA,bC];have hf:=zX (G:=G) 40 m;have hp:=zSK (G:=G) v;have hpr:=fun h=>zDE (G:=G) hm h hs;have hw:=qEO (G:=G) (zG v) m;have e:qCS v m=if qAS v=true then qR 40 m else wM (zG v) m:=rfl
 rw[e];generalize qAS v=b at *;generalize wM (zG v) m=W at *;generalize zG v=T at *;simp only[iK]at hf hp hpr hw;refine rgn [] [[],[],[2,3,4]] ?_;iterate 3 refine op3 ?_
 refine qA (AW.seq (rgn [.nilp,.bool b] [[],[2,3,4,6]] ?_));iterate 2 refine oq1 tok hp ?_
 refine qA (cnd ?_ ?_)
 ·intro h6;try simp at h6
  rw[bE h6];refine rgn [.nilp,(qR 40 m).enc] [[],[],[4]] ?_;iterate 3 refine oq1 tok hf ?_
  exact qA (AW.ret qI)
 intro h6;try simp at h6
 rw[bD (by simp[h6])];have hpr:=hpr h6;refine AW.skip ?_;refine iL tok mixed [4] 4 [[2],[3],[10],[9,11]] [.nilp,.str T,.nilp,W.enc] [] (by kernel_rfl) (by intro C;conv=>lhs;simp) (by exact⟨hpr,hw⟩) (by simp[Sm.sum,Sm.foot,Sm.tch,Sm.refs];kernel_rfl) (by intro C;conv=>lhs;simp) (by first|exact True.intro|omega|simp) ?_;exact AW.ret qI
def rowN:Nat->Nat->List Nat
 | 0,_=>[]
 | w+1,v=>v / 10 ^ w % 10::rowN w v
def ndg (Q:Nat):Nat:=(zA (Lib.decDigits Q)).length
theorem wCA (Q k:Nat):ndg Q<=k↔Q<10 ^ k:=by
 unfold ndg;have ha:=qBT (qHU Q);have hv:zY (zA (Lib.decDigits Q))=Q:=by rw[qEF,qMJ]
 have hh:=qFO (Lib.decDigits Q);have h1:=uA ha;generalize zA (Lib.decDigits Q)=s at *;rw[hv]at h1;constructor
 ·intro h;exact dR h1 (dI (by decide) h)
 intro h;apply fO;intro hk;have h2:=qCE ha (by omega) (hh (by omega));rw[hv]at h2;have:10 ^ k<=10 ^ (s.length-1):=dI (by decide) (by omega);omega
theorem qVQ:∀ (k:Nat) (d:List UInt8),zY (wN d k).1 * 10 ^ (k-(wN d k).2)=zY d/\(wN d k).2<=k
 | 0,d=>by simp[wN]
 | k+1,d=>by
  simp only[wN];split
  ·rename_i h;obtain⟨h1,h2⟩:=qVQ k d.dropLast;have hd:d=d.dropLast++[48]:=by
    obtain⟨hne,hl⟩:∃ hne:d≠[],d.getLast hne=48:=by
     cases d with
     | nil=>simp at h
     | cons a t=>exact⟨by simp,by rw[fD (by simp)]at h;exact Option.some.inj h⟩
    conv=>lhs;rw[<-fI hne,hl]
   refine⟨?_,by omega⟩;conv=>rhs;rw[hd,qNB,<-h1]
   rw[show k+1-(wN d.dropLast k).2=(k-(wN d.dropLast k).2)+1 by omega,eZ,<-gQ];rfl
  simp
theorem zDM {neg:Bool} {v sc:Nat} {d:Dc} (h:jC neg v sc=(d,0)):zJ d=true/\d.scale.toNat<=sc/\zY d.digits * 10 ^ (sc-d.scale.toNat)=v/\(v≠0->d.neg=neg)/\(v=0->d.neg=false):=by
 have hm:zJ d=true:=by
  have:=qJA (neg:=neg) (scale:=sc) (qHU v) (by show(jC neg v sc).2=0;rw[h]);have e:(yA neg (Lib.decDigits v) sc).1=d:=by show(jC neg v sc).1=d;rw[h]
  rwa [e]at this
 refine⟨hm, ?_⟩;obtain⟨h1,h2⟩:=qVQ sc (zA (Lib.decDigits v));rw[qEF,qMJ]at h1;unfold jC yA at h;simp only at h;generalize wN (zA (Lib.decDigits v)) sc=x at *;split at h
 ·rename_i hx;cases h;rw[hx]at h1;simp[zY]at h1;subst h1;exact⟨by simp,by simp[zY],by simp,by simp⟩
 rename_i hx;split at h
 ·cases h
 cases h;simp only at hm ⊢;refine⟨by simpa using h2,by simpa using h1,by simp,fun h0 => ?_⟩;rw[h0]at h1;have hz:zY x.1=0:=by
  rcases Nat.mul_eq_zero.1 h1 with e|e
  ·exact e
  have:=gJ (n:=sc-x.2) (show 0<10 by decide);omega
 rcases qWO hm with⟨_,_,e⟩|⟨e,_⟩
 ·exact e
 have:=qCE (jR hm).1.2.2.2 (bV.2 hx) e;have:=gJ (n:=x.1.length-1) (show 0<10 by decide);simp only at *; omega
theorem zND (d:List UInt8) (sc:Nat):∀ k,wN (d++List.replicate k 48) (sc+k)=wN d sc
 | 0=>by simp
 | k+1=>by
  rw[show sc+(k+1)=(sc+k)+1 by omega];simp only[wN];have e:d++List.replicate (k+1) 48=(d++List.replicate k 48)++[48]:=by rw[eD,cD]
  rw[e,bE (by simp),List.dropLast_concat];exact zND d sc k
theorem zNE:∀ k,wN [] k=([],k)\/wN [] k=([],0)
 | 0 => .inr rfl
 | k+1=>by simp[wN]
theorem qSS (neg:Bool) (sc:Nat):jC neg 0 sc=(⟨false,[48],0⟩,0):=by
 have e:zA (Lib.decDigits 0)=[]:=by
  rw[zCH (y:=[]) (qHU 0) (by simp) (by rw[qMJ];rfl)];rfl
 unfold jC yA;rw[e];simp only;rw[bE (by rcases zNE sc with h|h <;> rw[h])]
def zSV (z:Int) (sc:Nat):Dc × Int:=jC (decide (z<0)) z.natAbs sc
def zV (d:Dc) (M:Int):Int:=if d.neg=true then-((zY d.digits * 10 ^ (M-d.scale).toNat:Nat):Int) else((zY d.digits * 10 ^ (M-d.scale).toNat:Nat):Int)
theorem zQX {d:Dc} (h:zJ d=true) (M:Int):decide (zV d M<0)=d.neg:=by
 have hp:0<10 ^ (M-d.scale).toNat:=gJ (by decide);unfold zV;by_cases hn:d.neg=true
 ·have hv:0<zY d.digits:=by
   rcases qWO h with⟨_,_,e⟩|⟨e,_⟩
   ·rw[hn]at e;cases e
   obtain⟨⟨_,_,_,h4⟩,_,_⟩:=jR h;have hl:0<d.digits.length:=by
    unfold zJ at h;simp only[bI,bY]at h;omega
   have:=qCE h4 hl e;have:=gJ (n:=d.digits.length-1) (show 0<10 by decide);omega
  have:=Nat.mul_pos hv hp;rw[bE hn,hn];simp only[bY];omega
 rw[bD hn];have:d.neg=false:=by simpa using hn
 rw[this];simp only[dZ];omega
theorem wDE {a b:Dc} (ha:zJ a=true) (hb:zJ b=true):qJF a b=zSV (zV a (wA a b)+zV b (wA a b)) (wA a b).toNat:=by
 have hx:qQZ a b=zY a.digits * 10 ^ (wA a b-a.scale).toNat:=qKV _ _;have hy:qQY a b=zY b.digits * 10 ^ (wA a b-b.scale).toNat:=qKV _ _;have na:=zQX ha (wA a b);have nb:=zQX hb (wA a b);unfold qJF zSV;unfold zV at na nb ⊢;rw[<-hx]at na ⊢;rw[<-hy]at nb ⊢;generalize qQZ a b=x at *;generalize qQY a b=y at *;generalize (wA a b).toNat=M;cases h1:a.neg <;> cases h2:b.neg <;> simp only[h1,h2]at na nb ⊢ <;> simp at na nb ⊢
 ·have e:¬ ((x:Int)+y<0):=by omega
  have e3:((x:Int)+y).natAbs=x+y:=by omega
  simp[e,e3]
 ·split
  ·have e:¬ ((x:Int) + -y<0):=by omega
   have e3:((x:Int) + -y).natAbs=x-y:=by omega
   simp[e,e3]
  have e:((x:Int) + -y<0):=by omega
  have e3:((x:Int) + -y).natAbs=y-x:=by omega
  simp[e,e3]
 ·by_cases hxy:y<=x
  ·rw[bE hxy];by_cases he:x=y
   ·subst he;have e:¬ (-(x:Int)+x<0):=by omega
    have e3:(-(x:Int)+x).natAbs=0:=by omega
    rw[gL,e3,qSS,qSS]
   have e:(-(x:Int)+y<0):=by omega
   have e3:(-(x:Int)+y).natAbs=x-y:=by omega
   simp[e,e3]
  rw[bD hxy];have e:¬ (-(x:Int)+y<0):=by omega
  have e3:(-(x:Int)+y).natAbs=y-x:=by omega
  simp[e,e3]
 have e3:(-(x:Int) + -y).natAbs=x+y:=by omega
 rw[e3];have e:(-(x:Int) + -y<0):=by omega
 simp[e]
theorem qEX {c:Int} (h:c≠0) (m:Int):qU (qR c m)=true:=by
 rw[yB];simp[qR,yD,yT,qBF,qBI,jY,yU,uS,dc0,h]
theorem qBR (b:Bool) (m:Int):qU (yH b m)=true:=by
 rw[yB];cases b <;> simp[yH,yD,yT,qBF,qBI,jY,yU,uS,dc0]
theorem qEN {r:Dc × Int} (h:r.2=0->zJ r.1=true) (m:Int):qU (xJ r m)=true:=by
 unfold xJ;split
 ·rename_i h0;rw[yB];simp[yD,yT,qBF,qBI,jY,yU,uS,h h0]
 rename_i h0;exact qEX h0 m
theorem qBV {neg:Bool} {v sc:Nat} (h:(jC neg v sc).2=0):zJ (jC neg v sc).1=true:=qJA (qHU v) h
theorem zGF {a b:Dc} (h:(qJF a b).2=0):zJ (qJF a b).1=true:=by
 unfold qJF at h ⊢;split
 ·rename_i h0;rw[bE h0]at h;exact qBV h
 rename_i h0;rw[bD h0]at h;split
 ·rename_i h1;rw[bE h1]at h;exact qBV h
 rename_i h1;rw[bD h1]at h;exact qBV h
def qLH (d:Dc):List Val->Dc × Int
 | []=>(d,0)
 | v::l=>if(qJF d v.num).2≠0 then qJF d v.num else qLH (qJF d v.num).1 l
def qQD (l:List Val) (m:Int):Val:=if l.length=0 then qLS m else if qJE l [5]=true then qBD l [] m else if qJE l [4]=false then qR 40 m else xJ (qLH (qGX 0) l) m
theorem zYF (l:List Val) (m:Int) (hl:l.length<=1000000) (hj:(Lib.join (l.map Val.text) []).length<=1000000000) (hm:∀ v∈l,qU v=true):AFn Tryz.prog G 86 [.agg [.int .u64 m],.sl 9 (l.map Val.enc)] ((qQD l m).enc):=by
 refine AFn.introU tok Tryz.func86 (by kernel_rfl) rfl rfl ?_;simp only[Tryz.f86,qG,bA,bC];have hf:=zX (G:=G) 40 m;have hn:=zDT (G:=G) m;have ha5:=zJS (G:=G) l [5];have ha4:=zJS (G:=G) l [4];have hjn:=zDV (G:=G) l [] m hl hj;have hd0:=qFG (G:=G) 0 (by decide) (by decide);have hr:=fun r=>uU (G:=G) r m;have hm0:=qTI (n:=0) (by decide) (by decide);have hnum:qJE l [4]=true->∀ v∈l,zJ v.num=true:=fun h v hv=>by
  have:=bR.1 h v hv;simp at this;exact xP (hm v hv) this
 have e:qQD l m=if l.length=0 then qLS m else if qJE l [5]=true then qBD l [] m else if qJE l [4]=false then qR 40 m else xJ (qLH (qGX 0) l) m:=rfl
 rw[e];have hle:(l.map Val.enc).length=l.length:=by simp
 generalize qJE l [5]=b5 at *;generalize qJE l [4]=b4 at *;generalize qBD l [] m=J at *;generalize qGX 0=D0 at *;obtain⟨R,hRe⟩:∃ R,qLH D0 l=R:=⟨_,rfl⟩;rw[hRe];simp only[iK,Dc.enc,bA,bC]at hf hn ha5 ha4 hjn hd0 hr;refine rgn [] [[],[1,2,4]] ?_;iterate 2 refine op3 ?_
 refine qA (AW.seq (AW.block (rgn [] [[],[],[],[1,2,4,9]] ?_)));iterate 4 refine op3 ?_
 refine qA (cnd ?_ ?_)
 ·intro h9;try simp at h9
  rw[bE (by simpa using h9)];refine rgn [.nilp,(qLS m).enc] [[],[],[4]] ?_;iterate 3 refine oq1 tok hn ?_
  exact qA (AW.ret qI)
 intro h9;try simp at h9
 rw[bD (by simpa using h9)];refine rgn [.int .i64 5,.nilp,.bool b5] [[],[],[],[1,2,4,15]] ?_;iterate 4 refine oq1 tok ha5 ?_
 refine qA (cnd ?_ ?_)
 ·intro h15;try simp at h15
  rw[bE h15];refine rgn [.nilp,J.enc] [[],[],[4,21],[4]] ?_;iterate 4 refine op3 ?_ (hv:=by first|exact True.intro|exact hjn|(simp at hjn ⊢; exact hjn);done|omega|simp)
  exact qA (AW.ret qI)
 intro h15;try simp at h15
 rw[bD (by simp[h15])];refine rgn [.int .i64 4,.nilp,.bool b4] [[],[],[],[],[1,2,4,22]] ?_;iterate 5 refine oq1 tok ha4 ?_
 refine qA (cnd ?_ ?_)
 ·intro h22;try simp at h22
  rw[bE h22];refine rgn [.nilp,(qR 40 m).enc] [[],[],[4]] ?_;iterate 3 refine oq1 tok hf ?_
  exact qA (AW.ret qI)
 intro h22;try simp at h22
 rw[bD (by simp[h22])];have hnum:=hnum (by simpa using h22);refine AW.skip (rgn [.nilp,D0.enc] [[],[],[],[1,2,4,5,6]] ?_);iterate 4 refine oq1 tok hd0 ?_
 refine qA ?_;refine AW.join (α:=Unit) (fun _=>True) (fun a=>⟨qZ 50 [(2,.ptr 2 0),(4,.ptr 4 0),(5,.ptr 5 0),(6,.p (.int .i64 R.2))],[],[(2,.vars 61 [.p (.int .u64 m)]),(4,.vars 31 [.p (.int .i64 0),.p (.int .u64 0),.p (.bool false),.p (.str []),.p (.int .i64 0),.p (.str []),.nilsl,.nilsl,.p (.int .i64 0)]),(5,.vars 26 [.p (.bool R.1.neg),.p (.str R.1.digits),.p (.int .i64 R.1.scale)])],0⟩) ?_ ?_
 ·
  refine rgn [] [[],[],[2,4,5,6,30,31,32]] ?_;iterate 3 refine op3 ?_
  refine qA (AW.block ?_);refine AW.loop (α:=Nat × Dc) (fun a=>a.1<=l.length/\R=qLH a.2 (l.drop a.1)/\zJ a.2=true) (fun a=>⟨qZ 50 [(2,.ptr 2 0),(4,.ptr 4 0),(5,.ptr 5 0),(6,.p (.int .i64 0)),(30,.p (.sl 9 (l.map Val.enc))),(31,.p (.int .i64 l.length)),(32,.p (.int .i64 a.1))],[],[(2,.vars 61 [.p (.int .u64 m)]),(4,.vars 31 [.p (.int .i64 0),.p (.int .u64 0),.p (.bool false),.p (.str []),.p (.int .i64 0),.p (.str []),.nilsl,.nilsl,.p (.int .i64 0)]),(5,.vars 26 [.p (.bool a.2.neg),.p (.str a.2.digits),.p (.int .i64 a.2.scale)])],0⟩) (fun a=>l.length-a.1) ((0,D0)) ⟨by simp,by simp[hRe],hm0⟩ ⟨qE (by simp),rfl,by simp,by simp⟩ ?_;rintro⟨k,d⟩ ⟨hk,hs,hdm⟩;simp only at hk hs hdm;refine rgn [] [[]] ?_;refine op3 ?_;refine qA (AW.seq (cnd ?_ ?_))
  ·intro h33;try simp at h33
   obtain⟨v,hv⟩:∃ v,l[k]?=some v:=⟨l[k]'(by omega),by simp[show k<l.length by omega]⟩;have hvm:=hnum v (bH hv);have had:=qYJ (G:=G) d v.num (jR hdm).1 (jR hvm).1;have hdr:l.drop k=v::l.drop (k+1):=by
    obtain⟨h1,h2⟩:=bB.1 hv;rw[cJ h1,h2]
   have hst:qLH d (l.drop k)=if(qJF d v.num).2≠0 then qJF d v.num else qLH (qJF d v.num).1 (l.drop (k+1)):=by rw[hdr];rfl
   have hmm:=fun h=>zGF (a:=d) (b:=v.num) h;generalize qJF d v.num=R2 at *;obtain⟨r,c⟩:=R2;simp only[Dc.enc]at had hst hmm;refine AW.skip (AW.seq (AW.block (rgn [v.enc] [[],[],[],[2,4,5,8,30,31,32]] ?_)));iterate 4 refine op3 ?_ (hv:=by first|exact True.intro|(simp[hv];done)|(simp[hv];omega);done|omega|simp)
   refine qA (rgn [.nilp,.tup [r.enc,.int .i64 c]] [[],[],[],[2,4,5,30,31,32,40],[],[],[],[],[2,4,5,6,30,31,32]] ?_);iterate 9 refine oq1 tok had ?_
   refine qA (rgn [] [[],[2,4,5,6,30,31,32,44]] ?_);iterate 2 refine op3 ?_
   refine qA (cnd ?_ ?_)
   ·intro h44;try simp at h44
    rw[bE h44]at hst;obtain rfl:=hs.trans hst;refine AW.exit ?_;simp[-exists_const, -exists_eq_left, -true_and, -exists_and_left, -exists_and_right];exact⟨(),trivial,qE (by simp),rfl,by simp,by simp⟩
   intro h44;try simp at h44
   rw[bD (by simpa using h44)]at hst;obtain rfl:c=0:=by simpa using h44
   refine AW.skip (rgz [] [[],[2,4,5,6,30,31,32]] ?_);iterate 2 refine op3 ?_
   refine qA ?_;exact⟨(k+1,r),⟨by simp only;omega,hs.trans hst,hmm rfl⟩,by simp only;omega,qE (by simp),rfl,by simp,by simp⟩
  intro h33;try simp at h33
  obtain rfl:k=l.length:=by omega
  rw[fP]at hs;have hs2:R=(d,0):=hs;subst hs2;refine AW.exit ?_;simp[-exists_const, -exists_eq_left, -true_and, -exists_and_left, -exists_and_right];exact⟨(),trivial,qE (by simp),rfl,by simp,by simp⟩
 ·
  rintro a hI;have hr:=hr R;refine rgn [.nilp,(xJ R m).enc] [[],[],[],[4,49],[4]] ?_;iterate 5 refine op3 ?_ (hv:=by first|exact True.intro|exact hr|(simp;done)|(simp at hr ⊢; exact hr);done|omega|simp)
  exact qA (AW.ret qI)
def qZS (v:Val) (m:Int):Val:=if(jF v).2=false then qR 40 m else yH (!(jF v).1) m
structure CallOK (G:qT) (call arg:List UInt8) (v r:Val):Prop where
 len:call=[108,101,110,103,116,104]->AFn Tryz.prog G 31 [.agg [.int .u64 v.mask],v.enc] r.enc
 key:call=[107,101,121,115]->AFn Tryz.prog G 32 [.agg [.int .u64 v.mask],v.enc] r.enc
 not_:call=[110,111,116]->r=qZS v v.mask
 typ:call=[116,121,112,101]->∃ s,AFn Tryz.prog G 37 [.int .i64 v.kind] (.str s)/\r=wM s v.mask
 rev:call=[114,101,118,101,114,115,101]->(v.kind≠6->r=qR 40 v.mask)/\(v.kind=6->AX Tryz.prog G 39 [.ms 890] [(890,.row 31 9 (v.kids.map Val.enc))] (.tuple []) [890] [(890,.row 31 9 (v.kids.reverse.map Val.enc))]/\v.kids.length<=1000000/\AFn Tryz.prog G 40 [.agg [.int .u64 v.mask],.sl 9 (v.kids.reverse.map Val.enc)] r.enc)
 tnu:call=[116,111,110,117,109,98,101,114]->(v.kind=4->r = .mk 4 v.mask v.num [] [] [] 0)/\(v.kind≠4->AFn Tryz.prog G 42 [.agg [.int .u64 v.mask],.str call,.str arg,v.enc] r.enc)
 num:call=[102,108,111,111,114]\/call=[99,101,105,108]\/call=[114,111,117,110,100]->AFn Tryz.prog G 43 [.agg [.int .u64 v.mask],.str call,v.enc] r.enc
 obj:call=[101,110,116,114,105,101,115]\/call=[104,97,115]->AFn Tryz.prog G 44 [.agg [.int .u64 v.mask],.str call,.str arg,v.enc] r.enc
 txt:call=[116,101,115,116]\/call=[115,116,97,114,116,115]\/call=[101,110,100,115]\/call=[115,112,108,105,116]->AFn Tryz.prog G 42 [.agg [.int .u64 v.mask],.str call,.str arg,v.enc] r.enc
 str:call=[116,111,115,116,114,105,110,103]->(v.kind=5->r=wM v.text (qX v))/\(v.kind≠5->AFn Tryz.prog G 45 [.agg [.int .u64 (qX v)],v.enc] r.enc)
 jsn:call=[116,111,106,115,111,110]->AFn Tryz.prog G 45 [.agg [.int .u64 (qX v)],v.enc] r.enc
 lst:call ∉ [[108,101,110,103,116,104],[107,101,121,115],[110,111,116],[116,121,112,101],[114,101,118,101,114,115,101],[116,111,110,117,109,98,101,114],[102,108,111,111,114],[99,101,105,108],[114,111,117,110,100],[101,110,116,114,105,101,115],[104,97,115],[116,101,115,116],[115,116,97,114,116,115],[101,110,100,115],[115,112,108,105,116],[116,111,115,116,114,105,110,103],[116,111,106,115,111,110]]->AFn Tryz.prog G 46 [.agg [.int .u64 (qX v)],.str call,.str arg,v.enc] r.enc
theorem zAR (call arg:List UInt8) (v r:Val) (h:CallOK G call arg v r):AFn Tryz.prog G 11 [.str call,.str arg,v.enc] (r.enc):=by
 refine AFn.introU tok Tryz.func11 (by kernel_rfl) rfl rfl ?_;simp only[Tryz.f11,qG,bA,bC];obtain⟨f1,f2,f3,f4,f5,f6,f7,f8,f9,f10,f11,f12⟩:=h;have hd:=zYT (G:=G) v;simp only[iK]at f1 f2 f5 f6 f7 f8 f9 f10 f11 f12 hd;refine rgn [] [[],[0,1,5,6]] ?_;iterate 2 refine op3 ?_
 refine qA ?_;refine iU tok mixed 9 [[5],[12],[13],[5],[15],[16],[],[],[7,14]] [.nilp,.int .u64 (qX v)] [] (by kernel_rfl) ?_;iterate 9 refine dq1 hd ?_
 refine DGo.nil (by kernel_rfl) ⟨by kernel_rfl, ?_⟩;refine qB.run [[0,1,5,6,7,8]] ?_;refine op3 ?_;refine qA (AW.seq (rgn [] [[]] ?_));refine op3 ?_;refine qA (AW.block (rgn [] [[],[0,1,5,6,7,8,18,19]] ?_));iterate 2 refine op3 ?_
 refine qA (cnd ?_ ?_)
 ·intro h19;try simp at h19
  have f1:=f1 h19;refine rgn [.nilp,r.enc] [[],[],[6,23],[6]] ?_;iterate 4 refine oq1 tok f1 ?_
  exact qA (AW.ret qI)
 intro h19;try simp at h19
 refine rgn [] [[],[0,1,5,6,7,8,18,24]] ?_;iterate 2 refine op3 ?_
 refine qA (cnd ?_ ?_)
 ·intro h24;try simp at h24
  have f2:=f2 h24;refine rgn [.nilp,r.enc] [[],[],[6,28],[6]] ?_;iterate 4 refine oq1 tok f2 ?_
  exact qA (AW.ret qI)
 intro h24;try simp at h24
 refine rgn [] [[],[0,1,5,6,7,8,18,29]] ?_;iterate 2 refine op3 ?_
 refine qA (cnd ?_ ?_)
 ·intro h29;try simp at h29
  have f3:=f3 h29;have ht:=qVP (G:=G) v;have hf:=zX (G:=G) 40 v.mask;have hx:=fun x=>qBW (G:=G) x v.mask;unfold qZS at f3;generalize jF v=tk at *;obtain⟨t1,t2⟩:=tk;simp only[iK]at ht hf hx f3;subst f3;refine rgn [.nilp,.tup [.bool t1,.bool t2]] [[],[],[],[],[6,7,34,35],[],[6,7,9,10]] ?_;iterate 7 refine oq1 tok ht ?_
  refine qA (AW.seq (rgn [] [[],[6,7,9,37]] ?_));iterate 2 refine op3 ?_
  refine qA (cnd ?_ ?_)
  ·intro h37;try simp at h37
   rw[bE h37];refine rgn [.nilp,(qR 40 v.mask).enc] [[],[],[6]] ?_;iterate 3 refine oq1 tok hf ?_
   exact qA (AW.ret qI)
  intro h37;try simp at h37
  rw[bD (by simp[h37])];have hx:=hx (!t1);generalize yH (!t1) v.mask=X at *;refine AW.skip (rgn [.nilp,X.enc] [[],[],[],[6,43],[6]] ?_);iterate 5 refine op3 ?_ (hv:=by first|exact True.intro|exact hx|(simp at hx ⊢; exact hx);done|omega|simp)
  exact qA (AW.ret qI)
 intro h29;try simp at h29
 refine rgn [] [[],[0,1,5,6,7,8,18,44]] ?_;iterate 2 refine op3 ?_
 refine qA (cnd ?_ ?_)
 ·intro h44;try simp at h44
  obtain⟨s,g4,rfl⟩:=f4 h44;have hw:=qEO (G:=G) s v.mask;generalize wM s v.mask=W at *;simp only[iK]at hw;refine iL tok mixed [6] 5 [[7],[5],[47],[48],[46,49]] [.nilp,.str s,.nilp,W.enc] [] (by kernel_rfl) (by intro C;conv=>lhs;simp) (by exact⟨g4,hw⟩) (by simp[Sm.sum,Sm.foot,Sm.tch,Sm.refs];kernel_rfl) (by intro C;conv=>lhs;simp) (by first|exact True.intro|omega|simp) ?_;exact AW.ret qI
 intro h44;try simp at h44
 refine rgn [] [[],[0,1,5,6,7,8,18,51]] ?_;iterate 2 refine op3 ?_
 refine qA (cnd ?_ ?_)
 ·intro h51;try simp at h51
  obtain⟨f5,f5b⟩:=f5 h51;refine AW.seq (rgn [] [[],[],[5,6,7,55]] ?_);iterate 3 refine op3 ?_
  refine qA (cnd ?_ ?_)
  ·intro h55;try simp at h55
   have f5:=f5 h55;subst f5;have hf:=zX (G:=G) 40 v.mask;simp only[iK]at hf;refine rgn [.nilp,(qR 40 v.mask).enc] [[],[],[6]] ?_;iterate 3 refine oq1 tok hf ?_
   exact qA (AW.ret qI)
  intro h55;try simp at h55
  obtain⟨g1,g2,g3⟩:=f5b (by simpa using h55);have hcl:=xT (G:=G) v.kids (by omega);refine AW.skip (rgn [.nilf,.sl 9 (v.kids.map Val.enc),.clo 31 []] [[],[],[],[6,7,11]] ?_);iterate 4 refine oq1 tok hcl ?_
  refine qA ?_;refine lI 60 890 (by simp) (by conv=>lhs;simp) ?_;refine rgn [] [[]] ?_;refine op3 ?_;refine qJ ?_;refine qB.stepK [6,7,11] (zI rfl g1 (by simp)) (by conv=>lhs;simp) rfl ?_;refine qB.nil ?_;refine lD 890 (by conv=>lhs;simp) ?_;refine rgn [.nilp,r.enc] [[],[],[6,65],[6]] ?_;iterate 4 refine op3 ?_ (hv:=by first|exact True.intro|exact g3|(simp[List.map_reverse]at g3 ⊢; exact g3);done|omega|simp)
  exact qA (AW.ret qI)
 intro h51;try simp at h51
 refine rgn [] [[],[0,1,5,6,7,8,18,66]] ?_;iterate 2 refine op3 ?_
 refine qA (cnd ?_ ?_)
 ·intro h66;try simp at h66
  obtain⟨f6,f6b⟩:=f6 h66;refine AW.seq (rgn [] [[],[],[0,1,5,6,7,70]] ?_);iterate 3 refine op3 ?_
  refine qA (cnd ?_ ?_)
  ·intro h70;try simp at h70
   have f6:=f6 h70;have hn:=uU (G:=G) (v.num,0) v.mask;have e:xJ (v.num,0) v.mask = .mk 4 v.mask v.num [] [] [] 0:=rfl;rw[e,<-f6]at hn;simp only[iK,Dc.enc]at hn;refine rgn [.nilp,r.enc] [[],[],[],[6,74],[6]] ?_;iterate 5 refine oq1 tok hn ?_
   exact qA (AW.ret qI)
  intro h70;try simp at h70
  have f6b:=f6b h70;refine AW.skip (rgn [.nilp,r.enc] [[],[],[],[6,75,76,77,78],[6,79],[6]] ?_);iterate 6 refine oq1 tok f6b ?_
  exact qA (AW.ret qI)
 intro h66;try simp at h66
 refine AW.seq (rgn [] [[],[0,1,5,6,7,8,18,80]] ?_);iterate 2 refine op3 ?_
 refine qA (cnd ?_ ?_)
 ·intro h80;try simp at h80
  have g7:=f7 (by first|exact .inl h80|exact .inr (.inl h80)|exact .inr (.inr h80)|simp_all);refine AW.skip (cnd ?_ ?_)
  ·intro h80;try simp at h80
   have g7:=f7 (by first|exact .inl h80|exact .inr (.inl h80)|exact .inr (.inr h80)|simp_all);refine rgn [.nilp,r.enc] [[],[],[],[6,87],[6]] ?_;iterate 5 refine oq1 tok g7 ?_
   exact qA (AW.ret qI)
  intro h80;try simp at h80
  contradiction
 intro h80;try simp at h80
 refine rgn [] [[],[0,1,5,6,7,8,18,80]] ?_;iterate 2 refine op3 ?_
 refine qA (cnd ?_ ?_)
 ·intro h80;try simp at h80
  have g7:=f7 (by first|exact .inl h80|exact .inr (.inl h80)|exact .inr (.inr h80)|simp_all);refine AW.skip (cnd ?_ ?_)
  ·intro h80;try simp at h80
   have g7:=f7 (by first|exact .inl h80|exact .inr (.inl h80)|exact .inr (.inr h80)|simp_all);refine rgn [.nilp,r.enc] [[],[],[],[6,87],[6]] ?_;iterate 5 refine oq1 tok g7 ?_
   exact qA (AW.ret qI)
  intro h80;try simp at h80
  contradiction
 intro h80;try simp at h80
 refine rgz [] [[],[0,1,5,6,7,8,18,80]] ?_;iterate 2 refine op3 ?_
 refine qA (cnd ?_ ?_)
 ·intro h80;try simp at h80
  have g7:=f7 (by first|exact .inl h80|exact .inr (.inl h80)|exact .inr (.inr h80)|simp_all);refine rgn [.nilp,r.enc] [[],[],[],[6,87],[6]] ?_;iterate 5 refine oq1 tok g7 ?_
  exact qA (AW.ret qI)
 intro h80;try simp at h80
 refine AW.seq (rgn [] [[],[0,1,5,6,7,8,18,88]] ?_);iterate 2 refine op3 ?_
 refine qA (cnd ?_ ?_)
 ·intro h88;try simp at h88
  have g8:=f8 (by first|exact .inl h88|exact .inr h88|simp_all);refine AW.skip (cnd ?_ ?_)
  ·intro h88;try simp at h88
   have g8:=f8 (by first|exact .inl h88|exact .inr h88|simp_all);refine rgn [.nilp,r.enc] [[],[],[],[6,91,92,93,94],[6,95],[6]] ?_;iterate 6 refine oq1 tok g8 ?_
   exact qA (AW.ret qI)
  intro h88;try simp at h88
  contradiction
 intro h88;try simp at h88
 refine rgz [] [[],[0,1,5,6,7,8,18,88]] ?_;iterate 2 refine op3 ?_
 refine qA (cnd ?_ ?_)
 ·intro h88;try simp at h88
  have g8:=f8 (by first|exact .inl h88|exact .inr h88|simp_all);refine rgn [.nilp,r.enc] [[],[],[],[6,91,92,93,94],[6,95],[6]] ?_;iterate 6 refine oq1 tok g8 ?_
  exact qA (AW.ret qI)
 intro h88;try simp at h88
 refine AW.seq (rgn [] [[],[0,1,5,6,7,8,18,96]] ?_);iterate 2 refine op3 ?_
 refine qA (cnd ?_ ?_)
 ·intro h96;try simp at h96
  have g9:=f9 (by first|exact .inl h96|exact .inr (.inl h96)|exact .inr (.inr (.inl h96))|exact .inr (.inr (.inr h96))|simp_all);refine AW.skip (cnd ?_ ?_)
  ·intro h96;try simp at h96
   have g9:=f9 (by first|exact .inl h96|exact .inr (.inl h96)|exact .inr (.inr (.inl h96))|exact .inr (.inr (.inr h96))|simp_all);refine rgn [.nilp,r.enc] [[],[],[],[6,101,102,103,104],[6,105],[6]] ?_;iterate 6 refine oq1 tok g9 ?_
   exact qA (AW.ret qI)
  intro h96;try simp at h96
  contradiction
 intro h96;try simp at h96
 refine rgn [] [[],[0,1,5,6,7,8,18,96]] ?_;iterate 2 refine op3 ?_
 refine qA (cnd ?_ ?_)
 ·intro h96;try simp at h96
  have g9:=f9 (by first|exact .inl h96|exact .inr (.inl h96)|exact .inr (.inr (.inl h96))|exact .inr (.inr (.inr h96))|simp_all);refine AW.skip (cnd ?_ ?_)
  ·intro h96;try simp at h96
   have g9:=f9 (by first|exact .inl h96|exact .inr (.inl h96)|exact .inr (.inr (.inl h96))|exact .inr (.inr (.inr h96))|simp_all);refine rgn [.nilp,r.enc] [[],[],[],[6,101,102,103,104],[6,105],[6]] ?_;iterate 6 refine oq1 tok g9 ?_
   exact qA (AW.ret qI)
  intro h96;try simp at h96
  contradiction
 intro h96;try simp at h96
 refine rgn [] [[],[0,1,5,6,7,8,18,96]] ?_;iterate 2 refine op3 ?_
 refine qA (cnd ?_ ?_)
 ·intro h96;try simp at h96
  have g9:=f9 (by first|exact .inl h96|exact .inr (.inl h96)|exact .inr (.inr (.inl h96))|exact .inr (.inr (.inr h96))|simp_all);refine AW.skip (cnd ?_ ?_)
  ·intro h96;try simp at h96
   have g9:=f9 (by first|exact .inl h96|exact .inr (.inl h96)|exact .inr (.inr (.inl h96))|exact .inr (.inr (.inr h96))|simp_all);refine rgn [.nilp,r.enc] [[],[],[],[6,101,102,103,104],[6,105],[6]] ?_;iterate 6 refine oq1 tok g9 ?_
   exact qA (AW.ret qI)
  intro h96;try simp at h96
  contradiction
 intro h96;try simp at h96
 refine rgz [] [[],[0,1,5,6,7,8,18,96]] ?_;iterate 2 refine op3 ?_
 refine qA (cnd ?_ ?_)
 ·intro h96;try simp at h96
  have g9:=f9 (by first|exact .inl h96|exact .inr (.inl h96)|exact .inr (.inr (.inl h96))|exact .inr (.inr (.inr h96))|simp_all);refine rgn [.nilp,r.enc] [[],[],[],[6,101,102,103,104],[6,105],[6]] ?_;iterate 6 refine oq1 tok g9 ?_
  exact qA (AW.ret qI)
 intro h96;try simp at h96
 refine rgn [] [[],[0,1,5,6,8,18,106]] ?_;iterate 2 refine op3 ?_
 refine qA (cnd ?_ ?_)
 ·intro h106;try simp at h106
  obtain⟨f10,f10b⟩:=f10 h106;refine AW.seq (rgn [] [[],[],[5,6,8,110]] ?_);iterate 3 refine op3 ?_
  refine qA (cnd ?_ ?_)
  ·intro h110;try simp at h110
   have f10:=f10 h110;subst f10;have hw:=qEO (G:=G) v.text (qX v);generalize wM v.text (qX v)=W at *;simp only[iK]at hw;refine rgn [.nilp,W.enc] [[],[],[],[6,114],[6]] ?_;iterate 5 refine oq1 tok hw ?_
   exact qA (AW.ret qI)
  intro h110;try simp at h110
  have f10b:=f10b h110;refine AW.skip (rgn [.nilp,r.enc] [[],[],[6,117],[6]] ?_);iterate 4 refine oq1 tok f10b ?_
  exact qA (AW.ret qI)
 intro h106;try simp at h106
 refine rgn [] [[],[0,1,5,6,8,118]] ?_;iterate 2 refine op3 ?_
 refine qA (cnd ?_ ?_)
 ·intro h118;try simp at h118
  have f11:=f11 h118;refine rgn [.nilp,r.enc] [[],[],[6,122],[6]] ?_;iterate 4 refine oq1 tok f11 ?_
  exact qA (AW.ret qI)
 intro h118;try simp at h118
 have f12:=f12 (by simp[*]);refine AW.skip (rgn [.nilp,r.enc] [[],[],[],[6,123,124,125,126],[6,127],[6]] ?_);iterate 6 refine oq1 tok f12 ?_
 exact qA (AW.ret qI)
theorem zUC:zMS Tryz.prog 196 Extern.BytealgCount.count:=fun args w=>run_callFunc_extern Tryz.func196 (by kernel_rfl) (by kernel_rfl) (by kernel_rfl) (by kernel_rfl) args w
theorem zWC (s:List UInt8) (c:UInt8):AFn Tryz.prog G 153 [.str s,.str [c]] (.int .i64 (s.count c:Nat)):=by
 refine AFn.introU tok Tryz.func153 (by kernel_rfl) rfl rfl ?_;simp only[Tryz.f153,qG,bA,bC];refine rgn [] [[0,1]] ?_;refine op3 ?_;refine qA (AW.seq (rgn [] [[],[],[0,1,9]] ?_));iterate 3 refine op3 ?_
 refine qA (cnd ?_ ?_)
 ·intro h9;try simp at h9
 intro h9;try simp at h9
 refine AW.skip (AW.seq (rgn [] [[],[],[0,1,15]] ?_));iterate 3 refine op3 ?_
 refine qA (cnd ?_ ?_)
 ·intro h15;try simp at h15
  refine rgn [.int .u8 c.toNat] [[],[],[]] ?_;iterate 3 refine op3 ?_
  refine qJ ?_;refine qB.stepK [19] (qUM (s:=s) (n:=c.toNat) (p:=True) (q:=True) (r:=True) zUC rfl (by simp) trivial (by simp) trivial (by simp) trivial) (by conv=>lhs;simp) rfl ?_;refine qB.run [[4]] ?_;refine op3 ?_;exact qA (AW.ret qI)
 intro h15;try simp at h15
theorem zNU (s:List UInt8) (c:UInt8):AFn Tryz.prog G 197 [.str s,.str [c]] (.int .i64 (Lib.indexByte s c)):=by
 refine AFn.introU tok Tryz.func197 (by kernel_rfl) rfl rfl ?_;simp only[Tryz.f197,qG,bA,bC];refine rgn [] [[0,1]] ?_;refine op3 ?_;refine qA (rgn [] [[],[],[0,1,5]] ?_);iterate 3 refine op3 ?_
 refine qA (AW.seq (AW.block (rgn [] [[],[],[],[],[],[0,1,5,19,22],[],[0,1,5,16]] ?_)));iterate 3 refine op3 ?_
 iterate 3 refine op4 ?_
 iterate 2 refine op3 ?_
 refine qA (cnd ?_ ?_)
 ·intro h16;try simp at h16
  subst h16;refine rgn [] [[]] ?_;refine op3 ?_;refine qA ?_;exact AW.ret (qI (k:=by simp[Lib.indexByte]))
 intro h16;try simp at h16
 refine rgn [] [[],[],[0,1,5,24]] ?_;iterate 3 refine op3 ?_
 refine qA (cnd ?_ ?_)
 ·intro h24;try simp at h24
  refine rgn [.int .u8 c.toNat,.nilp,.int .i64 (Lib.indexByte s c)] [[],[],[],[30],[4]] ?_;iterate 5 refine op3 ?_ (hv:=by first|exact True.intro|(have:=qUP (G:=G) s c.toNat;simpa using this)|simp;done|omega|simp)
  exact qA (AW.ret qI)
 intro h24;try simp at h24
theorem zVZ (s:List UInt8) (c:UInt8):AFn Tryz.prog G 154 [.str s,.str [c]] (.int .i64 (Lib.indexByte s c)):=by
 refine AFn.introU tok Tryz.func154 (by kernel_rfl) rfl rfl ?_;simp only[Tryz.f154,qG,bA,bC];refine rgn [] [[0,1]] ?_;refine op3 ?_;refine qA (rgn [.nilp,.int .i64 (Lib.indexByte s c)] [[],[],[7],[4]] ?_);iterate 4 refine op3 ?_ (hv:=by first|exact True.intro|(exact zNU s c;done)|omega|simp)
 exact qA (AW.ret qI)
theorem qFP {α β:Type} (f:α->β) (l:List α) (x y:β) (r:List β):(l.map f++x::r).set l.length y=l.map f++y::r:=by
 rw[List.set_append_right _ _ (by simp)];simp
theorem qDM {α β:Type} (f:α->β) (l:List α) (x:β) (r:List β):(l.map f++x::r)[l.length]?=some x:=by
 rw[cU (by simp)];simp
theorem zES (s:List UInt8) (c:UInt8) (hs:s.length<=1000000000):AX Tryz.prog G 109 [.p (.str s),.p (.str [c]),.p (.int .i64 0),.p (.int .i64 (-1))] [] (.ms 91) [] [(91,.row 9 1 ((splitB c s).map PD.str))]:=by
 refine AX.introU tok 60 Tryz.func109 (by kernel_rfl) rfl rfl ?_;simp only[Tryz.f109,qG,bA,bC];have hC:=zWC (G:=G) s c;have hcl:s.count c<=s.length:=List.count_le_length;have hsl:=qRR c s;generalize hN:s.count c=N at *;have hlt:¬ s.length<N:=by omega
 refine rgn [] [[0,1,2,3]] ?_;refine op3 ?_;refine qA (AW.seq (rgn [] [[],[0,1,2,3,13]] ?_));iterate 2 refine op3 ?_
 refine qA (cnd ?_ ?_)
 ·intro h13;try simp at h13
 intro h13;try simp at h13
 refine AW.skip (AW.seq (rgn [] [[],[0,1,2,3,15]] ?_));iterate 2 refine op3 ?_
 refine qA (cnd ?_ ?_)
 ·intro h15;try simp at h15
 intro h15;try simp at h15
 refine AW.skip (AW.seq (rgn [] [[],[0,1,2,3,20]] ?_));iterate 2 refine op3 ?_
 refine qA (cnd ?_ ?_)
 ·intro h20;try simp at h20
  refine rgz [.nilp,.int .i64 N] [[],[],[],[],[0,1,2,3]] ?_;iterate 5 refine oq1 tok hC ?_
  refine qA (rgn [] [[],[],[],[],[0,1,2,29],[0,1,2,3]] ?_);iterate 6 refine op3 ?_
  refine qA (rgn [.str []] [[],[],[0,1,2,3,9]] ?_);iterate 3 refine op3 ?_
  refine qA (rgn [] [[],[],[0,1,2,3,9]] ?_);iterate 3 refine op3 ?_
  refine qA (rgn [] [[]] ?_);refine op3 ?_;refine qA (AW.seq (AW.block ?_));refine AW.loop (α:=List (List UInt8) × List UInt8) (fun a=>splitB c s=a.1++splitB c a.2/\a.1.length+a.2.count c=N/\a.2.length<=s.length) (fun a=>⟨qZ 66 [(0,.p (.str a.2)),(1,.p (.str [c])),(2,.p (.int .i64 0)),(3,.p (.int .i64 N)),(9,.ms 91),(10,.p (.int .i64 a.1.length))],[],[(91,.row 9 1 (a.1.map PD.str ++ .str []::List.replicate (N-a.1.length) (.str [])))],60⟩) (fun a=>N-a.1.length) (([],s)) ⟨by simp,by simpa using hN,by simp⟩ ⟨qE (by simp[hlt]),rfl,by simp[hlt,eU],by simp[hlt]⟩ ?_;rintro⟨done,r⟩ ⟨hsp,hcn,hrl⟩;simp only at hsp hcn hrl;have hI:=zVZ (G:=G) r c;refine AW.seq (rgn [] [[],[],[0,1,2,3,9,10,36]] ?_);iterate 3 refine op3 ?_
  refine qA (cnd ?_ ?_)
  ·intro h36;try simp at h36
   have hm:c∈r:=by
    apply Classical.byContradiction;intro h;have:=List.count_eq_zero.2 h;omega
   obtain⟨a,q,rfl,hn⟩:=zOU hm;rw[qVW hn]at hsp;rw[zUL hn]at hcn;simp only[bU,cA]at hrl;rw[qNT hn]at hI;have hrep:List.replicate (N-done.length) (PD.str [])=PD.str []::List.replicate (N-(done.length+1)) (PD.str []):=by
    rw[show N-done.length=(N-(done.length+1))+1 by omega,eU]
   have hdq:List.drop (a.length+1) (List.take ((a.length:Int)+((q.length:Int)+1)).toNat (a++c::q))=q:=by
    rw[bK (by simp;omega)];simp
   refine AW.skip (AW.block (rgn [.nilp,.int .i64 a.length] [[],[],[],[0,1,2,3,9,10,11]] ?_));iterate 4 refine oq1 tok hI ?_
   refine qA (AW.seq (rgn [] [[],[0,1,2,3,9,10,11,41]] ?_));iterate 2 refine op3 ?_
   refine qA (cnd ?_ ?_)
   ·intro h41;try simp at h41
    omega
   intro h41;try simp at h41
   refine AW.skip (rgn [.str [],.str a] [[],[],[],[],[],[],[0,1,2,3,9,10,11,42,43,48],[],[0,1,2,3,9,10,11]] ?_);iterate 9 refine op3 ?_ (hv:=by first|exact True.intro|(simp[qDM];done)|(simp[qDM];omega);done|omega|simp)
   refine qA (rgn [] [[],[],[],[],[1,2,3,9,10,50,54],[],[0,1,2,3,9,10]] ?_);iterate 7 refine op3 ?_
   refine qA (rgz [] [[],[],[0,1,2,3,9,10]] ?_);iterate 3 refine op3 ?_
   refine qA ?_;exact⟨(done++[a],q),⟨by simp[hsp],by simp;omega,by simp only[];omega⟩,by simp;omega,qE (by simp[qFP,hrep,hdq]),rfl,by simp[qFP,hrep,hdq],by simp[qFP,hrep,hdq]⟩
  intro h36;try simp at h36
  have hm:c ∉ r:=by
   intro h;have:=List.count_pos_iff.2 h;omega
  rw[qVV hm]at hsp;have hdl:done.length=N:=by have:=List.count_eq_zero.2 hm;omega
  subst hdl;have hfin:List.take (done.length+1) (List.map PD.str done++[PD.str r])=List.map PD.str (splitB c s):=by
   rw[hsp,bK (by simp)];simp
  refine AW.exit ?_;simp;refine rgn [.str [],.str r] [[],[],[],[],[9,10]] ?_;iterate 5 refine op3 ?_ (hv:=by first|exact True.intro|(simp[qDM];done)|(simp[qDM];omega);done|omega|simp)
  refine qA (rgn [] [[],[],[]] ?_);iterate 3 refine op3 ?_
  refine qJ ?_;refine qB.stepK [65] (zBM tok rfl rfl (done.length+1) (by conv=>lhs;simp) trivial (by conv=>lhs;simp) trivial rfl (by conv=>lhs;simp[qFP]) (by simp) (by omega)) (by conv=>lhs;simp[hfin]) rfl ?_;refine qB.run [[8]] ?_;refine op3 ?_;refine qA ?_;exact AW.ret zC
 intro h20;try simp at h20
theorem zET (s:List UInt8) (c:UInt8) (hs:s.length<=1000000000):AR Tryz.prog G 109 [.str s,.str [c],.int .i64 0,.int .i64 (-1)] 9 1 ((splitB c s).map PD.str):=AR.of_AX (k:=91) (by simpa using zES s c hs)
theorem zVU (s:List UInt8) (c:UInt8) (hs:s.length<=1000000000):AX Tryz.prog G 75 [.p (.str s),.p (.str [c])] [] (.ms 67) [] [(67,.row 9 1 ((splitB c s).map PD.str))]:=by
 refine AX.introU tok 60 Tryz.func75 (by kernel_rfl) rfl rfl ?_;simp only[Tryz.f75,qG,bA,bC];have hG:=zET (G:=G) s c hs;refine rgn [] [[0,1]] ?_;refine op3 ?_;refine qA (rgn [.nilf,.sl 1 ((splitB c s).map PD.str),.clo 9 []] [[],[],[7],[4]] ?_);iterate 4 refine op3 ?_ (hv:=by first|exact True.intro|exact hG|(simp;exact hG);done|omega|simp)
 refine qA ?_;exact AW.ret zC
def qFK (ws:List (List UInt8)) (m:Int):Val:=yJ (ws.map fun s=>wM s 0) m
theorem qWM (sep:List UInt8) (parts:List (List UInt8)) (v:Val) (m:Int) (hs:v.kind=5->AFn Tryz.prog G 75 [.str v.text,.str sep] (.sl 1 (parts.map PD.str))) (hn:parts.length<=1000000):AFn Tryz.prog G 42 [.agg [.int .u64 m],.str [115,112,108,105,116],.str sep,v.enc] ((if v.kind=5 then qFK parts m else qR 40 m).enc):=by
 refine AFn.introU tok Tryz.func42 (by kernel_rfl) rfl rfl ?_;simp only[Tryz.f42,qG,bA,bC];have hf:=zX (G:=G) 40 m;have he:=zLW (G:=G) parts m hn;have e:qFK parts m=yJ (parts.map fun s=>wM s 0) m:=rfl;rw[<-e]at he;generalize qFK parts m=W at *;simp only[iK]at hf he;refine rgn [] [[],[],[1,2,4,7,8]] ?_;iterate 3 refine op3 ?_
 refine qA (AW.seq (rgn [] [[],[],[1,2,4,7,8,13]] ?_));iterate 3 refine op3 ?_
 refine qA (cnd ?_ ?_)
 ·intro h13;try simp at h13
  rw[bD (by simpa using h13)];refine rgn [.nilp,(qR 40 m).enc] [[],[],[8]] ?_;iterate 3 refine oq1 tok hf ?_
  exact qA (AW.ret qI)
 intro h13;try simp at h13
 rw[bE (by simpa using h13)];have hs:=hs (by simpa using h13);refine AW.skip (AW.seq (rgn [] [[2,4,7,8,16]] ?_));refine op3 ?_;refine qA (AW.block (rgn [] [[],[2,4,7,8,16,17]] ?_));iterate 2 refine op3 ?_
 refine qA (cnd ?_ ?_)
 ·intro h17;try simp at h17
 intro h17;try simp at h17
 refine rgn [] [[],[2,4,7,8,16,34]] ?_;iterate 2 refine op3 ?_
 refine qA (cnd ?_ ?_)
 ·intro h34;try simp at h34
 intro h34;try simp at h34
 refine rgn [] [[],[2,4,7,8,16,42]] ?_;iterate 2 refine op3 ?_
 refine qA (cnd ?_ ?_)
 ·intro h42;try simp at h42
 intro h42;try simp at h42
 refine rgn [] [[],[2,4,7,8,50]] ?_;iterate 2 refine op3 ?_
 refine qA (cnd ?_ ?_)
 ·intro h50;try simp at h50
 intro h50;try simp at h50
 refine AW.skip ?_;refine lF mixed 8 [[4],[7],[60],[2],[61,62],[],[64],[59,63,65]] [W.enc] (by kernel_rfl) ?_;iterate 4 refine iN tok (hv:=by first|exact True.intro|exact hs|(simp;done);done|omega|simp) (k := ?_)
 refine iW tok (orc:=[.nilp,.sl 1 (parts.map PD.str)]) (hv:=by first|exact True.intro|exact hs|(simp;done);done|omega|simp) (k := ?_);iterate 2 refine iN tok (hv:=by first|exact True.intro|exact hs|(simp;done);done|omega|simp) (k := ?_)
 refine wI.call [] he rfl rfl (by simp) (by simp) (by simp) (by simp) (by simp) (by first|(simp;done)|(simp;omega)) (by first|(simp;done)|(simp;omega)) (by kernel_rfl) (by conv=>lhs;simp) ?_;refine wI.nil (by kernel_rfl) ⟨by kernel_rfl, ?_⟩;refine qB.run [[8]] ?_;refine op3 ?_;exact qA (AW.ret qI)
theorem qPG (arg:List UInt8) (v:Val) (m:Int) (hn:v.kids.length<=1000000) (hj:(Lib.join (v.kids.map Val.text) []).length<=1000000000) (hm:∀ k∈v.kids,qU k=true):AFn Tryz.prog G 46 [.agg [.int .u64 m],.str [97,100,100],.str arg,v.enc] ((if v.kind=6 then qQD v.kids m else qR 40 m).enc):=by
 refine AFn.introU tok Tryz.func46 (by kernel_rfl) rfl rfl ?_;simp only[Tryz.f46,qG,bA,bC];have hf:=zX (G:=G) 40 m;have hc:=xT (G:=G) v.kids (by omega);have ha:=zYF (G:=G) v.kids m hn hj hm;generalize qQD v.kids m=W at *;simp only[iK]at hf ha;refine rgn [] [[],[],[1,2,4,7,8]] ?_;iterate 3 refine op3 ?_
 refine qA (AW.seq (rgn [] [[],[],[1,2,4,7,8,12]] ?_));iterate 3 refine op3 ?_
 refine qA (cnd ?_ ?_)
 ·intro h12;try simp at h12
  rw[bD (by simpa using h12)];refine rgn [.nilp,(qR 40 m).enc] [[],[],[8]] ?_;iterate 3 refine oq1 tok hf ?_
  exact qA (AW.ret qI)
 intro h12;try simp at h12
 rw[bE (by simpa using h12)];refine AW.skip (rgn [.nilf,.sl 9 (v.kids.map Val.enc),.clo 31 []] [[],[],[],[1,2,4,8,9]] ?_);iterate 4 refine oq1 tok hc ?_
 refine qA (AW.seq (rgn [] [[]] ?_));refine op3 ?_;refine qA (AW.block (rgn [] [[],[1,2,4,8,9,18,19]] ?_));iterate 2 refine op3 ?_
 refine qA (cnd ?_ ?_)
 ·intro h19;try simp at h19
 intro h19;try simp at h19
 refine rgn [] [[],[1,2,4,8,9,18,26]] ?_;iterate 2 refine op3 ?_
 refine qA (cnd ?_ ?_)
 ·intro h26;try simp at h26
 intro h26;try simp at h26
 refine rgn [] [[],[1,2,4,8,9,18,34]] ?_;iterate 2 refine op3 ?_
 refine qA (cnd ?_ ?_)
 ·intro h34;try simp at h34
  refine lD 17 (by conv=>lhs;simp) ?_;refine rgn [.nilp,W.enc] [[],[],[8,38],[8]] ?_;iterate 4 refine oq1 tok ha ?_
  exact qA (AW.ret qI)
 intro h34;try simp at h34
def n1:Dc:=⟨false,[49],0⟩
def n25:Dc:=⟨false,[50,53],1⟩
def exN (d:Dc):Val := .mk 4 0 d [] [] [] 0
def exL:Val := .mk 6 0 dc0 [] [] [exN n1,exN n25] 0
def exT:Val := .mk 5 0 dc0 [97,44,98] [] [] 0
theorem zLS {d:Dc} (h:zJ d=true):qU (exN d)=true:=by
 rw[yB];simp[exN,yD,yT,qBF,qBI,jY,yU,uS,h]
theorem zTP:qGX 0=⟨false,[48],0⟩:=by unfold qGX;rw[show(0:Int).natAbs=0 from rfl,qFA];rfl
theorem wCK:qLH ⟨false,[48],0⟩ exL.kids=(⟨false,[51,53],1⟩,0):=by decide +kernel
theorem wCL:qQD exL.kids 0 = .mk 4 0 ⟨false,[51,53],1⟩ [] [] [] 0:=by
 unfold qQD;rw[bD (by decide),bD (by decide +kernel),bD (by decide +kernel),zTP,wCK];rfl
theorem zUD:qFK (splitB 44 [97,44,98]) 0 = .mk 6 0 dc0 [] [] [.mk 5 0 dc0 [97] [] [] 0,.mk 5 0 dc0 [98] [] [] 0] 0:=by kernel_rfl
theorem zUV (v:Val) (r:Val) (h:AFn Tryz.prog G 46 [.agg [.int .u64 (qX v)],.str [97,100,100],.str [],v.enc] r.enc):AFn Tryz.prog G 11 [.str [97,100,100],.str [],v.enc] r.enc :=
 zAR [97,100,100] [] v r ⟨fun h=>absurd h (by decide),fun h=>absurd h (by decide),fun h=>absurd h (by decide),fun h=>absurd h (by decide),fun h=>absurd h (by decide),fun h=>absurd h (by decide),fun h=>absurd h (by decide),fun h=>absurd h (by decide),fun h=>absurd h (by decide),fun h=>absurd h (by decide),fun h=>absurd h (by decide),fun _=>h⟩
theorem zJI (sep:List UInt8) (v:Val) (r:Val) (h:AFn Tryz.prog G 42 [.agg [.int .u64 v.mask],.str [115,112,108,105,116],.str sep,v.enc] r.enc):AFn Tryz.prog G 11 [.str [115,112,108,105,116],.str sep,v.enc] r.enc :=
 zAR [115,112,108,105,116] sep v r ⟨fun h=>absurd h (by decide),fun h=>absurd h (by decide),fun h=>absurd h (by decide),fun h=>absurd h (by decide),fun h=>absurd h (by decide),fun h=>absurd h (by decide),fun h=>absurd h (by decide),fun h=>absurd h (by decide),fun _=>h,fun h=>absurd h (by decide),fun h=>absurd h (by decide),fun h=>absurd (by decide) h⟩
theorem zNI (s:List UInt8):AFn Tryz.prog G 20 [.str s] ((Val.mk 5 0 dc0 s [] [] 0).enc):=by
 refine AFn.introU tok Tryz.func20 (by kernel_rfl) rfl rfl ?_;simp only[Tryz.f20,qG,bA,bC];refine rgn [] [[]] ?_;refine op3 ?_;refine qA (rgn [] [[],[],[2]] ?_);iterate 3 refine op3 ?_
 refine qA ?_;exact AW.ret (qI (k:=by simp[dc0]))
theorem zHE  : AFn Tryz.prog G 9 [] (.bool true):=by
 refine AFn.introU tok Tryz.func9 (by kernel_rfl) rfl rfl ?_;simp only[Tryz.f9,qG,bA,bC];have ht:=zNI (G:=G) [97,44,98];have hsp:AFn Tryz.prog G 75 [.str [97,44,98],.str [44]] (.sl 1 ((splitB 44 [97,44,98]).map PD.str)):=AFn.of_AX (k:=67) (by simpa using zVU (G:=G) [97,44,98] 44 (by decide));have h2:=zJI (G:=G) [44] exT _ (qWM [44] (splitB 44 [97,44,98]) exT 0 (fun _=>hsp) (by decide));rw[bE (show exT.kind=5 from rfl),zUD]at h2;have m1:qU (exN n1)=true:=zLS (by decide +kernel);have m2:qU (exN n25)=true:=zLS (by decide +kernel);have h1:=zUV (G:=G) exL _ (qPG [] exL (qX exL) (by decide) (by decide) (fun k hk=>by
  rcases bM.1 hk with rfl|hk
  ·exact m1
  rw[cG.1 hk];exact m2))
 rw[bE (show exL.kind=6 from rfl),show qX exL=0 by decide +kernel,wCL]at h1;simp only[iK]at ht h1 h2;refine rgn [] [[34]] ?_;refine op3 ?_;refine qA (rgn [] [[],[],[],[1]] ?_);iterate 4 refine op3 ?_
 refine qA (rgn [] [[],[],[],[1,2]] ?_);iterate 4 refine op3 ?_
 refine qA (rgn [(exN n1).enc,(exN n25).enc,.tup [.str [97,100,100],.str [],exL.enc],(Val.mk 4 0 ⟨false,[51,53],1⟩ [] [] [] 0).enc] [[],[],[11],[]] ?_);iterate 4 refine op3 ?_ (hv:=by first|exact True.intro|(simp[dc0,exN,n1,n25,exL]at h1 ⊢; exact h1)|(simp[dc0,exN,n1,n25,exL];done)|simp[exN,n1,n25,dc0]|decide;done|omega|simp)
 refine qJ ?_;refine qB.freeze 11 (by conv=>lhs;simp) ?_;refine qB.run [[],[],[3]] ?_;iterate 3 refine op3 ?_ (hv:=by first|exact True.intro|(simp[dc0,exN,n1,n25,exL]at h1 ⊢; exact h1)|(simp[dc0,exN,n1,n25,exL];done)|simp[exN,n1,n25,dc0]|decide;done|omega|simp)
 refine qA (rgn [.nilp,(Val.mk 5 0 dc0 [97,44,98] [] [] 0).enc,.nilp,(Val.mk 6 0 dc0 [] [] [.mk 5 0 dc0 [97] [] [] 0,.mk 5 0 dc0 [98] [] [] 0] 0).enc] [[],[],[],[3,4]] ?_);iterate 4 refine op3 ?_ (hv:=by first|exact True.intro|(simp[dc0]at ht ⊢; exact ht)|(simp[dc0]at h2 ⊢; exact h2)|(simp;done);done|omega|simp)
 refine qA (rgn [(Val.mk 5 0 dc0 [98] [] [] 0).enc] [[],[],[],[4,19],[],[],[],[],[4,20,24],[],[],[26,27],[],[],[],[26,31],[],[],[0]] ?_);iterate 19 first|refine op3 ?_ (hv:=by first|exact True.intro|((simp;done);done)|omega|simp)|refine op4 ?_ (hv:=by first|exact True.intro|((simp;done);done)|omega|simp)
 exact qA (AW.ret qI)
def eqL {α:Type} (p:α->α->Bool):List α->List α->Bool
 | [],[]=>true
 | x::l,y::m=>p x y && eqL p l m
 | _,_=>false
theorem zLT {α:Type} {p:α->α->Bool}:∀ {l m:List α},eqL p l m=true->l.length=m.length
 | [],[],_=>rfl
 | x::l,y::m,h=>by simp only[eqL,bI]at h;simp[zLT h.2]
 | [],_::_,h=>by simp[eqL]at h
 | _::_,[],h=>by simp[eqL]at h
theorem zEY {α:Type} {p:α->α->Bool} {l m:List α} {k:Nat} {x y:α} (hx:l[k]?=some x) (hy:m[k]?=some y):eqL p (l.drop k) (m.drop k)=(p x y && eqL p (l.drop (k+1)) (m.drop (k+1))):=by
 obtain⟨h1,rfl⟩:=bB.1 hx;obtain⟨h2,rfl⟩:=bB.1 hy;rw[cJ h1,cJ h2];rfl
theorem zLU {α:Type} {p:α->α->Bool} {l m:List α} {k:Nat} (h1:l.length<=k) (h2:l.length=m.length):eqL p (l.drop k) (m.drop k)=true:=by
 rw[dQ h1,dQ (by omega)];rfl
theorem qQQ {α:Type} {p:α->α->Bool} (hp:∀ x y,p x y=true↔x=y):∀ {l m:List α},eqL p l m=true↔l=m
 | [],[]=>by simp[eqL]
 | x::l,y::m=>by simp[eqL,hp,qQQ hp]
 | [],_::_=>by simp[eqL]
 | _::_,[]=>by simp[eqL]
def eqS (a b:List UInt8):Bool:=decide (a=b)
noncomputable def vY (a b:Val):Bool := @decide (a=b) (Classical.propDecidable _)
theorem qBU (a b:Val):vY a b=true↔a=b:=by unfold vY;exact @decide_eq_true_iff _ (Classical.propDecidable _)
theorem zRX (a b:Val):vY a b=(decide (a.kind=b.kind) && decide (a.mask=b.mask) && decide (a.num.neg=b.num.neg/\a.num.digits=b.num.digits/\a.num.scale=b.num.scale) && decide (a.text=b.text) && decide (a.code=b.code) && eqL eqS a.keys b.keys && eqL vY a.kids b.kids):=by
 rw[eM,qBU];simp only[bI,bY,qQQ qBU,qQQ (p:=eqS) (fun x y=>by simp[eqS])];constructor
 ·rintro rfl;simp
 rintro⟨⟨⟨⟨⟨⟨h1,h2⟩,h3⟩,h4⟩,h5⟩,h6⟩,h7⟩;exact Val.ext h1 h2 (Dc.ext' h3.1 h3.2.1 h3.2.2) h4 h6 h7 h5
theorem zRN (l m:List (List UInt8)):AFn Tryz.prog G 49 [.sl 1 (l.map PD.str),.sl 1 (m.map PD.str)] (.bool (eqL eqS l m)):=by
 refine AFn.introU tok Tryz.func49 (by kernel_rfl) rfl rfl ?_;simp only[Tryz.f49,qG,bA,bC];refine rgn [] [[0,1]] ?_;refine op3 ?_;refine qA (AW.seq (rgn [] [[],[],[],[],[0,1,10]] ?_));iterate 5 refine op3 ?_
 refine qA (cnd ?_ ?_)
 ·intro h10;try simp at h10
  have hR:eqL eqS l m=false:=by
   rw[<-iA];intro h;have:=zLT h;omega
  refine rgn [] [[]] ?_;refine op3 ?_;refine qA ?_;exact AW.ret (qI (k:=by simp[hR]))
 intro h10;try simp at h10
 refine AW.skip (AW.seq (rgn [] [[]] ?_));refine op3 ?_;refine qA (AW.block ?_);refine nE (i:=0) rfl (by decide) ?_;intro hlen;simp at hlen;refine AW.loop (α:=Nat) (fun k=>k<=l.length/\eqL eqS l m=eqL eqS (l.drop k) (m.drop k)) (fun k=>⟨qZ 26 [(0,.p (.sl 1 (l.map PD.str))),(1,.p (.sl 1 (m.map PD.str))),(5,.p (.int .i64 k))],[],[],0⟩) (fun k=>l.length-k) (0) ⟨by omega,rfl⟩ ⟨qE (by simp),rfl,by simp,by simp⟩ ?_;rintro k ⟨hk,hall⟩;refine AW.seq (rgn [] [[],[],[],[0,1,5,14]] ?_);iterate 4 refine op3 ?_
 refine qA (cnd ?_ ?_)
 ·intro h14;try simp at h14
  obtain⟨x,hx⟩:∃ x,l[k]?=some x:=⟨l[k],by simp[h14]⟩;obtain⟨y,hy⟩:∃ y,m[k]?=some y:=⟨m[k]'(by omega),by simp[show k<m.length by omega]⟩;have hst:=zEY (p:=eqS) hx hy;refine AW.skip (AW.seq (AW.block ?_));refine iL tok mixed [0,1,5,25] 9 [[0],[5],[17,18],[19],[1],[5],[21,22],[23],[20,24]] [.str x,.str y] [] (by kernel_rfl) (by intro C;conv=>lhs;simp) (by simp[hx,hy]) (by simp[Sm.sum,Sm.foot,Sm.tch,Sm.refs];kernel_rfl) (by intro C;conv=>lhs;simp) (by first|exact True.intro|omega|simp) ?_;refine cnd ?_ ?_
  ·intro h25;try simp at h25
   have hR:eqL eqS l m=false:=by rw[hall,hst];simp[eqS,h25]
   refine rgn [] [[]] ?_;refine op3 ?_;refine qA ?_;exact AW.ret (qI (k:=by simp[hR]))
  intro h25;try simp at h25
  have hnx:eqL eqS l m=eqL eqS (l.drop (k+1)) (m.drop (k+1)):=by rw[hall,hst];simp[eqS,h25]
  refine AW.skip (rgz [] [[],[],[0,1,5]] ?_);iterate 3 refine op3 ?_
  refine qA ?_;exact⟨k+1,⟨by omega,hnx⟩,by omega,qE (by simp),rfl,by simp,by simp⟩
 intro h14;try simp at h14
 have hR:eqL eqS l m=true:=by rw[hall];exact zLU (by omega) (by omega)
 refine AW.exit ?_;simp;refine rgn [] [[]] ?_;refine op3 ?_;refine qA ?_;exact AW.ret (qI (k:=by simp[hR]))
theorem qZG (a b:Val) (hlm:a.kids.length<=1000000) (ih:∀ x∈a.kids, ∀ y∈b.kids,AFn Tryz.prog G 15 [x.enc,y.enc] (.bool (vY x y))):AFn Tryz.prog G 15 [a.enc,b.enc] (.bool (vY a b)):=by
 refine AFn.introU tok Tryz.func15 (by kernel_rfl) rfl rfl ?_;simp only[Tryz.f15,qG,bA,bC];have ht:=zRN (G:=G) a.keys b.keys;refine rgn [] [[],[],[2,3]] ?_;iterate 3 refine op3 ?_
 refine qA (rgn [.nilp,.bool (eqL eqS a.keys b.keys)] [[],[],[],[],[2,3,12],[2,3,5]] ?_);iterate 6 refine oq1 tok ht ?_
 refine qA (AW.seq (rgn [] [[],[],[],[],[2,3,5,17],[],[],[],[],[],[2,3,5,18,23],[],[],[],[2,3,5,25,27],[],[],[],[2,3,5,31],[],[],[],[],[],[2,3,5,32,37],[],[],[],[2,3,5,39,41],[],[],[],[2,3,5,45],[],[],[],[2,3,49],[],[],[],[],[],[2,3,50,53,55],[],[],[2,3,58]] ?_));iterate 46 first|refine op3 ?_|refine op4 ?_
 refine qA (cnd ?_ ?_)
 ·intro h58;try simp at h58
  have hR:vY a b=false:=by
   rw[<-iA];intro h;have hl:a.kids.length=b.kids.length:=by rw[(qBU a b).1 h]
   have hk:eqL eqS a.keys b.keys=true:=by rw[(qBU a b).1 h];exact(qQQ (p:=eqS) (fun x y=>by simp[eqS])).2 rfl
   have:=(qBU a b).1 h;subst this;simp[hk]at h58
  refine rgn [] [[]] ?_;refine op3 ?_;refine qA ?_;exact AW.ret (qI (k:=by simp[hR]))
 intro h58;try simp at h58
 have hE:vY a b=eqL vY a.kids b.kids:=by
  rw[zRX];grind
 have hlen:a.kids.length=b.kids.length:=by grind
 refine AW.skip (AW.seq (rgn [] [[]] ?_));refine op3 ?_;refine qA (AW.block ?_);refine AW.loop (α:=Nat) (fun k=>k<=a.kids.length/\vY a b=eqL vY (a.kids.drop k) (b.kids.drop k)) (fun k=>⟨qZ 79 [(2,.ptr 2 0),(3,.ptr 3 0),(6,.p (.int .i64 k))],[],[(2,.vars 31 a.cells),(3,.vars 31 b.cells)],0⟩) (fun k=>a.kids.length-k) (0) ⟨by omega,hE⟩ ⟨qE (by simp),rfl,by simp,by simp⟩ ?_;rintro k ⟨hk,hall⟩;refine AW.seq (rgn [] [[],[],[],[],[2,3,6,63]] ?_);iterate 5 refine op3 ?_
 refine qA (cnd ?_ ?_)
 ·intro h63;try simp at h63
  obtain⟨x,hx⟩:∃ x,a.kids[k]?=some x:=⟨a.kids[k],by simp[h63]⟩;obtain⟨y,hy⟩:∃ y,b.kids[k]?=some y:=⟨b.kids[k]'(by omega),by simp[show k<b.kids.length by omega]⟩;have hst:=zEY (p:=vY) hx hy;have hgv:=ih x (bH hx) y (bH hy);simp only[iK]at hgv;refine AW.skip (AW.seq (AW.block ?_));refine iL tok mixed [2,3,6,7] 11 [[2],[66],[6],[67,68],[69],[3],[71],[6],[72,73],[74],[70,75]] [x.enc,y.enc,.nilp,.bool (vY x y)] [] (by kernel_rfl) (by intro C;conv=>lhs;simp) (by(simp[hx,hy];exact hgv)) (by simp[Sm.sum,Sm.foot,Sm.tch,Sm.refs];kernel_rfl) (by intro C;conv=>lhs;simp) (by first|exact True.intro|omega|simp) ?_;refine rgn [] [[],[2,3,6,78]] ?_;iterate 2 refine op3 ?_
  refine qA (cnd ?_ ?_)
  ·intro h78;try simp at h78
   have hR:vY a b=false:=by rw[hall,hst];simp[h78]
   refine rgn [] [[]] ?_;refine op3 ?_;refine qA ?_;exact AW.ret (qI (k:=by simp[hR]))
  intro h78;try simp at h78
  have hnx:vY a b=eqL vY (a.kids.drop (k+1)) (b.kids.drop (k+1)):=by rw[hall,hst];simp[h78]
  refine AW.skip (rgz [] [[],[],[2,3,6]] ?_);iterate 3 refine op3 ?_
  refine qA ?_;exact⟨k+1,⟨by omega,hnx⟩,by omega,qE (by simp),rfl,by simp,by simp⟩
 intro h63;try simp at h63
 have hR:vY a b=true:=by rw[hall];exact zLU (by omega) (by omega)
 refine AW.exit ?_;simp;refine rgn [] [[]] ?_;refine op3 ?_;refine qA ?_;exact AW.ret (qI (k:=by simp[hR]))
theorem zHG (a:Val):qU a=true->∀ b,AFn Tryz.prog G 15 [a.enc,b.enc] (.bool (vY a b)) :=
 iV (p:=fun a=>qU a=true->∀ b,AFn Tryz.prog G 15 [a.enc,b.enc] (.bool (vY a b))) (fun a ih ha b=>qZG a b (by have:=qCA ha;omega) fun x hx y _=>ih x hx (yZ ha hx) y) a
theorem qZJ (v:Val) (hl:v.kids.length<=1000000) (ih:∀ k∈v.kids,AFn Tryz.prog G 14 [k.enc] (qP k).enc):AFn Tryz.prog G 14 [v.enc] ((qP v).enc):=by
 refine AFn.introU tok Tryz.func14 (by kernel_rfl) rfl rfl ?_;simp only[Tryz.f14,qG,bA,bC];refine rgn [] [[],[1,2]] ?_;iterate 2 refine op3 ?_
 refine qA (rgn [] [[],[1,2]] ?_);iterate 2 refine op3 ?_
 refine qA (rgn [] [[],[1,2,3]] ?_);iterate 2 refine op3 ?_
 refine qA (AW.seq (rgn [] [[]] ?_));refine op3 ?_;refine qA (AW.block ?_);refine AW.loop (α:=Nat) (fun k=>k<=v.kids.length) (fun k=>⟨qZ 26 [(1,.ptr 1 0),(2,.ptr 2 0),(3,.ms 6),(4,.p (.int .i64 k))],[],[(1,.vars 31 (qPY v 0).cells),(2,.vars 31 wEF),(6,.row 31 9 (((v.kids.take k).map qP).map Val.enc))],0⟩) (fun k=>v.kids.length-k) (0) (by omega) ⟨qE (by simp),rfl,by simp,by simp⟩ ?_;rintro k hk;refine AW.seq (rgn [] [[],[],[],[],[1,2,3,4,11]] ?_);iterate 5 refine op3 ?_
 refine qA (cnd ?_ ?_)
 ·intro h11;try simp at h11
  obtain⟨x,hx⟩:∃ x,v.kids[k]?=some x:=⟨v.kids[k],by simp[h11]⟩;have hix:=ih x (bH hx);simp only[iK]at hix;refine AW.skip (AW.seq (AW.block (rgz [x.enc,.nilp,(qP x).enc,(qP x).enc] [[],[],[],[],[1,2,4,14,18],[],[],[],[1,2,4,22],[1,2,3,4]] ?_)));iterate 10 refine op3 ?_ (hv:=by first|exact True.intro|(simp at hix ⊢; exact hix)|(simp[hx];done)|(simp;omega);done|omega|simp)
  refine qA (rgz [] [[],[],[1,2,3,4]] ?_);iterate 3 refine op3 ?_
  refine qA ?_;exact⟨k+1,by omega,by omega,qE (by simp[bX,hx]),rfl,by simp[bX,hx],by simp[bX,hx]⟩
 intro h11;try simp at h11
 refine AW.exit ?_;simp;refine rgn [] [[],[],[1,2]] ?_;iterate 3 refine op3 ?_
 refine qA (rgn [] [[],[2]] ?_);iterate 2 refine op3 ?_
 refine qA ?_;exact AW.ret (qI (k:=by simp;exact bK (by simpa using h11)))
theorem qSG (v:Val):qU v=true->AFn Tryz.prog G 14 [v.enc] (qP v).enc :=
 iV (p:=fun v=>qU v=true->AFn Tryz.prog G 14 [v.enc] (qP v).enc) (fun v ih hv=>qZJ v (by have:=qCA hv;omega) fun k hk=>ih k hk (yZ hv hk)) v
def qJN (s:List UInt8):List UInt8:=if 40<s.length then s.take 40 else s
def qYG (s:List UInt8):List UInt8:=if qCD (qJN s)=false then[97] else qJN s
theorem zFH (s:List UInt8):(qJN s).length<=40:=by unfold qJN;split <;> first|(simp;omega)|omega|simp
theorem zVL (s:List UInt8):AFn Tryz.prog G 13 [.str s] (.str (qYG s)):=by
 refine AFn.introU tok Tryz.func13 (by kernel_rfl) rfl rfl ?_;simp only[Tryz.f13,qG,bA,bC];have hc:qJN s=if 40<s.length then s.take 40 else s:=rfl
 have hv:=qAG (G:=G) (qJN s) (by have:=zFH s;omega);have e:qYG s=if qCD (qJN s)=false then[97] else qJN s:=rfl
 rw[e];generalize qCD (qJN s)=b at *;generalize qJN s=c at *;refine rgn [] [[0]] ?_;refine op3 ?_;refine qA ?_;refine AW.join (α:=Unit) (fun _=>True) (fun a=>⟨qZ 12 [(0,.p (.str c))],[],[],0⟩) ?_ ?_
 ·
  refine rgn [] [[],[],[0,5]] ?_;iterate 3 refine op3 ?_
  refine qA (cnd ?_ ?_)
  ·intro h5;try simp at h5
   have hcc:s.take 40=c:=by rw[hc,bE (by omega)]
   refine rgz [] [[],[],[0]] ?_;iterate 3 refine op3 ?_
   refine qA ?_;exact⟨(),trivial,qE (by simp[hcc]),rfl,by simp[hcc],by simp[hcc]⟩
  intro h5;try simp at h5
  have hcc:s=c:=by rw[hc,bD (by omega)]
  refine AW.skip ?_;exact⟨(),trivial,qE (by simp[hcc]),rfl,by simp[hcc],by simp[hcc]⟩
 ·
  rintro a hI;refine AW.seq (rgn [.nilp,.bool b] [[],[],[0,10]] ?_);iterate 3 refine oq1 tok hv ?_
  refine qA (cnd ?_ ?_)
  ·intro h10;try simp at h10
   rw[bE h10];refine rgn [] [[]] ?_;refine op3 ?_;exact qA (AW.ret qI)
  intro h10;try simp at h10
  rw[bD (by simp[h10])];refine AW.skip (rgn [] [[],[2]] ?_);iterate 2 refine op3 ?_
  exact qA (AW.ret qI)
theorem zNT (v:Val):vY v v=true:=(qBU v v).2 rfl
theorem zRU (v:Val) (m:Int):qU (qPY v m)=qU v:=by rw[yB,yB v];rfl
theorem zRC (v:Val) (m:Int):qU (vZ v m)=qU v:=zRU v _
theorem zFD:∀ (l:List Val) (a b:Int),jD (orM a b) l=orM (jD a l) b
 | [],a,b=>by simp
 | x::l,a,b=>by
  simp only[jD];rw[<-zFD l (orM a (qX x)) b,or_assoc,or_comm b,<-or_assoc]
theorem qTW:∀ (l:List Val) {a b:Int},LeM a b->LeM a (jD b l)
 | [],a,b,h=>by simpa using h
 | x::l,a,b,h=>by simp only[jD];exact qTW l (h.trans (.or_left _ _))
theorem qXQ:∀ {l:List Val} {k:Val} (m:Int),k∈l->LeM (qX k) (jD m l)
 | x::l,k,m,h=>by
  simp only[jD];rcases bM.1 h with rfl|h
  ·exact qTW l (.or_right _ _)
  exact qXQ _ h
theorem qPQ:∀ {l:List Val} {m b:Int},LeM m b->(∀ k∈l,LeM (qX k) b)->LeM (jD m l) b
 | [],m,b,h,_=>by simpa using h
 | x::l,m,b,h,hk=>by
  simp only[jD];exact qPQ (h.or (hk x (by simp))) fun k hk'=>hk k (by simp[hk'])
theorem zAA (v:Val) (h:InV v):LeM v.mask (qX v):=by rw[uN];exact qTW _ (.refl (qIK h))
theorem zPP (v:Val) (m:Int):qX (vZ v m)=orM (qX v) m:=by rw[uN,uN v];exact zFD _ _ _
theorem zPR (v:Val):qX (qP v)=0:=by
 refine iV (p:=fun v=>qX (qP v)=0) (fun v ih => ?_) v;rw[uN,qGK,qGL];have:∀ l:List Val,(∀ k∈l,qX (qP k)=0)->jD 0 (l.map qP)=0:=by
  intro l;induction l with
  | nil=>intro _;simp
  | cons x l ihl=>intro h;simp only[bA,jD,h x (by simp)];exact ihl fun k hk=>h k (by simp[hk])
 exact this _ ih
theorem zQH (v:Val) (m:Int):qP (qPY v m)=qP v:=by rw[jL,jL v];rfl
end Go.Proofs.YtgcbapchinideaaGreatDoor
namespace Go.Proofs
open Go.Shelf
def mE:Go.Shelf.Ren:=⟨fun|146=>75|221=>109|268=>152|138=>153|143=>154|195=>96|197=>195|218=>196|219=>197|260=>222|217=>198|225=>223|224=>224|267=>225|266=>226|314=>238|n=>n,fun|9=>9|31=>27|3=>3|4=>4|0=>0|105=>222|21=>21|5=>5|46=>148|119=>254|139=>257|138=>256|146=>217|51=>202|n=>n,fun|1=>0|3=>1|4=>2|n=>n⟩
theorem nA:Go.Proofs.LaysM.n146 Tryz.prog mE:={
 mixed:=by kernel_rfl
 f138:=Tryz.func153.trans (congrArg some (by kernel_rfl))
 f143:=Tryz.func154.trans (congrArg some (by kernel_rfl))
 f146:=Tryz.func75.trans (congrArg some (by kernel_rfl))
 f195:=Tryz.func96.trans (congrArg some (by kernel_rfl))
 f197:=Tryz.func195.trans (congrArg some (by kernel_rfl))
 f217:=Tryz.func198.trans (congrArg some (by kernel_rfl))
 f218:=Tryz.func196.trans (congrArg some (by kernel_rfl))
 f219:=Tryz.func197.trans (congrArg some (by kernel_rfl))
 f221:=Tryz.func109.trans (congrArg some (by kernel_rfl))
 f224:=Tryz.func224.trans (congrArg some (by kernel_rfl))
 f225:=Tryz.func223.trans (congrArg some (by kernel_rfl))
 f260:=Tryz.func222.trans (congrArg some (by kernel_rfl))
 f266:=Tryz.func226.trans (congrArg some (by kernel_rfl))
 f267:=Tryz.func225.trans (congrArg some (by kernel_rfl))
 f268:=Tryz.func152.trans (congrArg some (by kernel_rfl))
 f314:=Tryz.func238.trans (congrArg some (by kernel_rfl))
 t0:=Tryz.underlying0
 a0:=Tryz.isAgg0
 z0:=Tryz.sizeOf0
 v0:=Tryz.zeroValue0
 t3:=Tryz.underlying3
 a3:=Tryz.isAgg3
 z3:=Tryz.sizeOf3
 v3:=Tryz.zeroValue3
 t4:=Tryz.underlying4
 a4:=Tryz.isAgg4
 z4:=Tryz.sizeOf4
 v4:=Tryz.zeroValue4
 t5:=Tryz.underlying5
 a5:=Tryz.isAgg5
 z5:=Tryz.sizeOf5
 v5:=Tryz.zeroValue5
 t9:=Tryz.underlying9
 a9:=Tryz.isAgg9
 z9:=Tryz.sizeOf9
 v9:=Tryz.zeroValue9
 t21:=Tryz.underlying21
 a21:=Tryz.isAgg21
 z21:=Tryz.sizeOf21
 v21:=Tryz.zeroValue21
 t31:=Tryz.underlying27
 a31:=Tryz.isAgg27
 z31:=Tryz.sizeOf27
 v31:=Tryz.zeroValue27
 t46:=Tryz.underlying148
 a46:=Tryz.isAgg148
 z46:=Tryz.sizeOf148
 v46:=Tryz.zeroValue148
 t51:=Tryz.underlying202
 a51:=Tryz.isAgg202
 z51:=Tryz.sizeOf202
 v51:=Tryz.zeroValue202
 t105:=Tryz.underlying222
 a105:=Tryz.isAgg222
 z105:=Tryz.sizeOf222
 v105:=Tryz.zeroValue222
 t119:=Tryz.underlying254
 a119:=Tryz.isAgg254
 z119:=Tryz.sizeOf254
 t138:=Tryz.underlying256
 a138:=Tryz.isAgg256
 z138:=Tryz.sizeOf256
 v138:=Tryz.zeroValue256
 t139:=Tryz.underlying257
 a139:=Tryz.isAgg257
 z139:=Tryz.sizeOf257
 v139:=Tryz.zeroValue257
 t146:=Tryz.underlying217
 a146:=Tryz.isAgg217
 z146:=Tryz.sizeOf217
 v146:=Tryz.zeroValue217
 g1:=by kernel_rfl
 g3:=by kernel_rfl
 g4:=by kernel_rfl
 i0:=by kernel_rfl
 i3:=by kernel_rfl
 i4:=by kernel_rfl
 i5:=by kernel_rfl
 i9:=by kernel_rfl
 i21:=by kernel_rfl
 i31:=by kernel_rfl
 i46:=by kernel_rfl
 i51:=by kernel_rfl
 i105:=by kernel_rfl
 i138:=by kernel_rfl
 i139:=by kernel_rfl
 i146:=by kernel_rfl
 m1:=by kernel_rfl
 s1_3:=fun w h=>Go.Proofs.cell_of_shapedOpen_int (zero := #[.int .i64 0]) (t:=3) h (of_decide_eq_true (by kernel_rfl)) (by kernel_rfl) rfl (by kernel_rfl) (by kernel_rfl) Tryz.underlying3
 m3:=by kernel_rfl
 m4:=by kernel_rfl }
def nN:Go.Shelf.Ren:=⟨fun|195=>96|n=>n,fun|9=>9|3=>3|0=>0|4=>4|n=>n,fun|n=>n⟩
theorem oM:Go.Proofs.Lays.n195 Tryz.prog nN:={
 mixed:=by kernel_rfl
 f195:=Tryz.func96.trans (congrArg some (by kernel_rfl))
 t0:=Tryz.underlying0
 a0:=Tryz.isAgg0
 z0:=Tryz.sizeOf0
 v0:=Tryz.zeroValue0
 t3:=Tryz.underlying3
 a3:=Tryz.isAgg3
 z3:=Tryz.sizeOf3
 v3:=Tryz.zeroValue3
 t4:=Tryz.underlying4
 a4:=Tryz.isAgg4
 z4:=Tryz.sizeOf4
 v4:=Tryz.zeroValue4
 t9:=Tryz.underlying9
 a9:=Tryz.isAgg9
 z9:=Tryz.sizeOf9
 v9:=Tryz.zeroValue9 }
end Go.Proofs
namespace Go.Proofs.YtgcbapchinideaaGreatDoor
open Sy Go
set_option maxRecDepth 100000
variable {G:qT}
def qKB (s sep:List UInt8):List (List UInt8):=Lib.splitK sep 0 (Lib.count s sep) s
theorem qHE {sep:List UInt8} (hs:sep≠[]):∀ (k:Nat) (s:List UInt8),Lib.join (Lib.splitK sep 0 k s) sep=s/\Lib.splitK sep 0 k s≠[]/\(Lib.splitK sep 0 k s).length<=s.length+1/\∀ p∈Lib.splitK sep 0 k s,p.length<=s.length
 | 0,s=>⟨by simp[Lib.splitK,Lib.join_one],by simp[Lib.splitK],by simp[Lib.splitK],by simp[Lib.splitK]⟩
 | k+1,s=>by
  unfold Lib.splitK;split
  ·exact⟨by simp[Lib.join_one],by simp,by simp,by simp⟩
  rename_i h;rcases Lib.index_spec s sep with⟨h1,_⟩|⟨i,h1,h2,h3,_⟩
  ·exact absurd (dD.2 h1) h
  have e:(Lib.index s sep).toNat=i:=by omega
  rw[e,cH];obtain⟨i1,i2,i3,i4⟩:=qHE hs k (s.drop (i+sep.length));have hlen:0<sep.length:=bV.2 hs;have hp:s=s.take i++(sep++s.drop (i+sep.length)):=by
   unfold Lib.occAt at h3;obtain⟨t,ht⟩:=fR.1 h3;have hd:s.drop (i+sep.length)=t:=by rw[<-dG,<-ht,List.drop_left]
   rw[hd,ht,cE]
  refine⟨?_,by simp, ?_, ?_⟩
  ·generalize Lib.splitK sep 0 k (s.drop (i+sep.length))=R at *;obtain⟨x,r,rfl⟩:∃ x r,R=x::r:=by cases R with
    | nil=>exact absurd rfl i2
    | cons x r=>exact⟨x,r,rfl⟩
   rw[Lib.join_cons]at i1 ⊢;conv=>rhs;rw[hp,<-i1]
   simp[Lib.joinTail]
  ·rw[cA];rw[bQ]at i3;have:=Lib.index_room s sep (by omega);omega
  intro p hm;rcases bM.1 hm with rfl|hm
  ·simp;omega
  have:=i4 p hm;rw[bQ]at this;omega
theorem zCM {s sep:List UInt8} (hs:sep≠[]):Lib.join (qKB s sep) sep=s/\qKB s sep≠[]/\(qKB s sep).length<=s.length+1/\∀ p∈qKB s sep,p.length<=s.length:=qHE hs _ s
def qOP (g:Nat) (G:qT):Prop:=∃ m:Int,G g=some [.int .i64 m]
theorem zQS (hG:qOP 0 G) (s sep:List UInt8) (h1:sep≠[]) (hs:s.length<=1000000):AFn Tryz.prog G 75 [.str s,.str sep] (.sl 1 ((qKB s sep).map PD.str)):=by
 refine⟨kO Tryz.func75 (by kernel_rfl) rfl,fun M w vs hg hmem hsz hrd => ?_⟩;obtain⟨a,b,rfl,rfl,rfl⟩:=zGC hsz hrd;obtain⟨m,hm⟩:=hG;obtain⟨g1,g2⟩:=hg.1 _ _ hm;obtain⟨u,hu,_⟩:=g1 0 _ rfl;have hur:=g2 0 _ u rfl hu;cases hur with
 | int k1 k2 =>
 have hcell:=hmem _ _ _ hu;have hb:1<=b.size:=by
  have:0<b.data.toList.length:=bV.2 h1;simp at this;omega
 have ha:a.size<=1000000:=by simpa using hs
 refine(Any.strings_Split { nA with } nA.i9 a b m w (by omega) hcell hb).mono ?_;rintro e w' ⟨rfl,rfl⟩;have hlen:=Lib.splitB_all b hb 0 (Lib.countB a b) a rfl;have hdata:=Lib.splitB_data b 0 (Lib.countB a b) a;obtain⟨_,_,j3,j4⟩:=qHE h1 (Lib.countB a b) a.data.toList;have hS:qKB a.data.toList b.data.toList=(Lib.splitB b 0 (Lib.countB a b) a).map (·.data.toList):=hdata.symm;rw[<-hdata]at j3 j4;rw[hS];generalize Lib.splitB b 0 (Lib.countB a b) a=ps at *;rw[cV]at j3;have ha2:a.data.toList.length<=1000000:=hs;have hold:∀ b' o v,M b' o=some v->b'<w.heap.size:=fun b' o v h=>kE (hmem b' o v h);have hnew:∀ j,(w.alloc (.cells (ps.map Value.string).toArray (mE.t 9))).cell? ⟨w.heap.size,j,none⟩=(ps.map Value.string)[j]?:=fun j=>by
  rw[World.cell?_alloc_new];simp
 refine⟨_,fun b' o=>if b'=w.heap.size then(ps.map Value.string)[o]? else M b' o,rfl, ?_, ?_, ?_, ?_,(RowKit.Below.refl _ w).alloc (bP _) _⟩
 ·refine Rd.sl w.heap.size 0 (by simp;omega) (bP _) (by unfold maxLen;omega) (fun _=>rfl) ?_ ?_ ?_
  ·intro i e he;rw[bG,bF]at he;obtain⟨x,_,rfl⟩:=he;rfl
  ·intro i e j he hj;rw[dT,bG,bF]at he;obtain⟨x,hx,rfl⟩:=he;obtain rfl:j=0:=by omega
   refine⟨.string x, ?_,rfl⟩;rw[bE rfl];simp[hx]
  intro i e j d u he hj hu;rw[dT,bG,bF]at he;obtain⟨x,hx,rfl⟩:=he;match j,hj with
  | 0,hj =>
   rw[bE rfl]at hu;simp[hx]at hu;subst hu;cases hj;refine .str rfl ?_;have:x.data.toList.length<=a.data.toList.length:=j4 _ (cO.2 ⟨x,bH hx,rfl⟩);show x.data.toList.length<=maxLen
   unfold maxLen;omega
  | j+1,hj=>exact absurd hj (by simp[PD.cells])
 ·intro b' o v h;change (if b'=w.heap.size then(ps.map Value.string)[o]? else M b' o)=some v at h
  by_cases hb':b'=w.heap.size
  ·subst hb';rw[bE rfl]at h;rw[hnew];exact h
  rw[bD hb']at h;rw[World.cell?_alloc_lt _ _ _ (hold b' o v h)];exact hmem b' o v h
 ·intro b' o v h;show(if b'=w.heap.size then(ps.map Value.string)[o]? else M b' o)=some v
  rw[bD (by have:=hold b' o v h;omega)];exact h
 intro b' o h;show(if b'=w.heap.size then(ps.map Value.string)[o]? else M b' o)=_
 rw[bD (by omega)]
theorem qMU (s:List UInt8) (hs:s.length<=1000000):AFn Tryz.prog G 96 [.str s] (.int .i64 (Lib.runeCountL s)):=by
 refine lY (kO Tryz.func96 (by kernel_rfl) rfl) fun M w vs hg hmem hsz hrd => ?_;obtain⟨b,rfl,rfl,hm⟩:=zMN hsz hrd;have hb:b.size<=1000000:=by simpa using hs
 refine(Any.utf8_RuneCountInString oM b w (by omega)).mono ?_;rintro e w' ⟨rfl,pos,rfl⟩;have hle:=Lib.runeCountFrom_le b b.size 0;have e:Lib.runeCountL b.data.toList=Lib.runeCount b:=rfl;rw[e];refine⟨_,rfl,.int (by rw[xC];simp only[kS];omega) (by rw[jI];simp only[kT];unfold Lib.runeCount;omega), ?_⟩;exact(RowKit.Below.refl _ w).alloc (bP _) _
theorem zCU:Lib.runeCountL []=0:=rfl
theorem qKP (l:List UInt8) (h:l≠[]):1<=(Lib.decodeL l).2:=by
 have h0:0<l.length:=bV.2 h;exact Lib.decode_width_pos ⟨l.toArray⟩ 0 (by show 0<l.toArray.size;simpa using h0)
theorem qNM (l:List UInt8) (h:l≠[]):Lib.runeCountL l=1+Lib.runeCountL (l.drop (Lib.decodeL l).2):=by
 have h0:0<l.length:=bV.2 h;have hd:=qKP l h;have hle:=Lib.decodeL_le l h;generalize hw:(Lib.decodeL l).2=k at *;have hsz:(⟨l.toArray⟩:ByteArray).size=l.length:=by show l.toArray.size=_;simp
 have e1:Lib.runeCountL l=Lib.runeCountFrom ⟨l.toArray⟩ l.length 0:=by
  unfold Lib.runeCountL Lib.runeCount;rw[hsz]
 have e2:Lib.runeCountL (l.drop k)=Lib.runeCountFrom ((⟨l.toArray⟩:ByteArray).extract k (⟨l.toArray⟩:ByteArray).size) (l.length-k) 0:=by
  have:((⟨l.toArray⟩:ByteArray).extract k (⟨l.toArray⟩:ByteArray).size).data.toList=l.drop k:=by rw[Lib.extract_to_end]
  rw[<-this,Lib.runeCountL_eq];unfold Lib.runeCount;rw[Lib.tail_size,hsz]
 rw[e1,e2,Lib.tail_count];obtain⟨f,hf⟩:∃ f,l.length=f+1:=⟨l.length-1,by omega⟩;rw[hf];conv=>lhs;unfold Lib.runeCountFrom
 rw[hsz,bE h0];congr 1
 rw[dK,cH,show(Utf8.decode ⟨l.toArray⟩ 0).2=k from hw];exact Lib.fuel_enough _ _ _ _ (by rw[hsz];omega) (by rw[hsz];omega)
def uK:Nat->List UInt8->List (List UInt8)
 | 0,_=>[]
 | 1,s=>[s]
 | n+2,s=>s.take (Lib.decodeL s).2::uK (n+1) (s.drop (Lib.decodeL s).2)
def vP (s:List UInt8):List (List UInt8):=uK (Lib.runeCountL s) s
theorem qXO:∀ n s,(uK n s).length=n
 | 0,_=>rfl
 | 1,_=>rfl
 | n+2,s=>by simp only[uK,cA,qXO (n+1)]
theorem qTO:∀ (n:Nat) (s:List UInt8),Lib.runeCountL s=n->(uK n s).flatten=s/\∀ p∈uK n s,p.length<=s.length
 | 0,s,h=>by
  by_cases hs:s=[]
  ·subst hs;simp[uK]
  rw[qNM s hs]at h;omega
 | 1,s,h=>by simp[uK]
 | n+2,s,h=>by
  have hs:s≠[]:=by rintro rfl;rw[zCU]at h;omega
  rw[qNM s hs]at h;obtain⟨h1,h2⟩:=qTO (n+1) (s.drop (Lib.decodeL s).2) (by omega);refine⟨by simp only[uK,List.flatten_cons,h1,cE],fun p hp => ?_⟩;rcases bM.1 hp with rfl|hp
  ·simp;omega
  have:=h2 p hp;rw[bQ]at this;omega
theorem zIR {n:Nat} (h:1<n) (s:List UInt8):uK n s=s.take (Lib.decodeL s).2::uK (n-1) (s.drop (Lib.decodeL s).2):=by
 obtain⟨k,rfl⟩:∃ k,n=k+2:=⟨n-2,by omega⟩;rfl
theorem zCT (s:List UInt8):Lib.join (vP s) []=s/\(vP s).length=Lib.runeCountL s/\∀ p∈vP s,p.length<=s.length:=by
 obtain⟨h1,h2⟩:=qTO _ s rfl;refine⟨?_,qXO _ _,h2⟩;unfold vP;have hj:∀ l:List (List UInt8),Lib.join l []=l.flatten:=fun l=>by
  cases l with
  | nil=>rfl
  | cons x r=>rw[Lib.join_cons];simp[Lib.joinTail]
 rw[hj,h1]
theorem qLK (s:List UInt8):Lib.runeCountL s<=s.length:=by
 have:=Lib.runeCount_le ⟨s.toArray⟩;have hsz:(⟨s.toArray⟩:ByteArray).size=s.length:=by show s.toArray.size=_;simp
 rw[hsz]at this;exact this
set_option maxHeartbeats 4000000
theorem zIP (s:List UInt8) (hG:U8 G) (hs:s.length<=1000000):AX Tryz.prog G 152 [.p (.str s),.p (.int .i64 (-1))] [] (.ms 81) [] [(81,.row 9 1 ((vP s).map PD.str))]:=by
 refine AX.introU tok 60 Tryz.func152 (by kernel_rfl) rfl rfl ?_;simp only[Tryz.f152,qG,bA,bC];have hC:=qMU (G:=G) s hs;have hle:=qLK s;have hD:=fun r h=>qVG (G:=G) hG r h;have hR:vP s=uK (Lib.runeCountL s) s:=rfl;rw[hR];have hcs:Lib.runeCountL s=Lib.runeCountL s:=rfl;generalize hN:Lib.runeCountL s=N at *;have hlt:¬ (N:Int) < -1:=by omega
 refine rgn [] [[0,1]] ?_;refine op3 ?_;refine qA (rgn [.nilp,.int .i64 N] [[],[],[0,1,5]] ?_);iterate 3 refine oq1 tok hC ?_
 refine qA (AW.seq (rgn [] [[],[],[],[],[],[0,1,5,14,17],[0,1,5,18]] ?_));iterate 3 refine op3 ?_
 iterate 3 refine op4 ?_
 refine op3 ?_;refine qA (cnd ?_ ?_)
 ·intro h18;try simp at h18
  refine rgz [] [[],[0,1]] ?_;iterate 2 refine op3 ?_
  refine qA (rgn [.str []] [[],[],[0,1,6]] ?_);iterate 3 refine op3 ?_
  refine qA (AW.seq (rgn [] [[]] ?_));refine op3 ?_;refine qA (AW.block ?_);refine AW.loop (α:=List (List UInt8) × List UInt8) (fun a=>uK N s=a.1++uK (N-a.1.length) a.2/\a.1.length+Lib.runeCountL a.2=N/\a.2.length<=s.length/\(0<N->a.1.length<N)) (fun a=>⟨qZ 50 [(0,.p (.str a.2)),(1,.p (.int .i64 N)),(6,.ms 81),(7,.p (.int .i64 a.1.length))],[],[(81,.row 9 1 (a.1.map PD.str++List.replicate (N-a.1.length) (.str [])))],60⟩) (fun a=>N-a.1.length) (([],s)) ⟨by simp,by simp[hN],by simp,by simp⟩ ⟨qE (by simp),rfl,by simp,by simp⟩ ?_;rintro⟨done,r⟩ ⟨hsp,hcn,hrl,hpos⟩;simp only at hsp hcn hrl hpos;refine AW.seq (rgn [] [[],[],[],[0,1,6,7,25]] ?_);iterate 4 refine op3 ?_
  refine qA (cnd ?_ ?_)
  ·intro h25;try simp at h25
   have hr0:r≠[]:=by rintro rfl;rw[zCU]at hcn;omega
   have hD:=hD r hr0;have hst:=qNM r hr0;have hk1:=qKP r hr0;have hk2:=Lib.decodeL_le r hr0;have hnx:=zIR (n:=N-done.length) (by omega) r;have hrep:List.replicate (N-done.length) (PD.str [])=PD.str []::List.replicate (N-(done.length+1)) (PD.str []):=by
    rw[show N-done.length=(N-(done.length+1))+1 by omega,eU]
   generalize (Lib.decodeL r).2=k at *;generalize (Lib.decodeL r).1=c at *;refine AW.skip (AW.seq (AW.block (rgn [.nilp,.tup [.int .i32 c,.int .i64 k]] [[],[],[],[],[],[0,1,6,7,32],[0,1,6,7,9]] ?_)));iterate 7 refine oq1 tok hD ?_
   refine qA (rgn [.str [],.str (r.take k)] [[],[],[],[],[],[0,1,6,7,9,37,38],[0,1,6,7,9]] ?_);iterate 7 refine op3 ?_ (hv:=by first|exact True.intro|(simp[hrep,qDM];done)|(simp[hrep,qDM];omega)|omega;done|omega|simp)
   refine qA (rgz [] [[],[],[1,6,7,41],[0,1,6,7]] ?_);iterate 4 refine op3 ?_
   refine qA (rgz [] [[],[],[0,1,6,7]] ?_);iterate 3 refine op3 ?_
   refine qA ?_;exact⟨(done++[r.take k],r.drop k),⟨by rw[hsp,hnx];simp[Nat.sub_sub],by simp;omega,by simp;omega,by simp;omega⟩,by simp;omega,qE (by simp[qFP,hrep]),rfl,by simp[qFP,hrep],by simp[qFP,hrep]⟩
  intro h25;try simp at h25
  refine AW.exit ?_;simp;refine AW.seq (rgn [] [[],[0,1,6,43]] ?_);iterate 2 refine op3 ?_
  refine qA (cnd ?_ ?_)
  ·intro h43;try simp at h43
   have hd1:done.length+1=N:=by have:=hpos (by omega);omega
   have hrep:List.replicate (N-done.length) (PD.str [])=[PD.str []]:=by rw[show N-done.length=1 by omega];rfl
   have hfin:uK N s=done++[r]:=by rw[hsp,show N-done.length=1 by omega];rfl
   rw[hfin];subst hd1;refine rgz [.str [],.str r] [[],[],[],[],[6,47,48],[6]] ?_;iterate 6 refine op3 ?_ (hv:=by first|exact True.intro|(simp[hrep,qDM];done)|(simp[hrep,qDM];omega)|omega;done|omega|simp)
   refine qA (rgn [] [[],[4]] ?_);iterate 2 refine op3 ?_
   refine qA ?_;exact AW.ret zC
  intro h43;try simp at h43
  have hN0:N=0:=by omega
  subst hN0;obtain rfl:done=[]:=bS (by omega);rw[show uK 0 s=[] from rfl];refine AW.skip (rgn [] [[],[4]] ?_);iterate 2 refine op3 ?_
  refine qA ?_;exact AW.ret zC
 intro h18;try simp at h18
theorem zIQ (hG:U8 G) (s:List UInt8) (hs:s.length<=1000000):AR Tryz.prog G 152 [.str s,.int .i64 (-1)] 9 1 ((vP s).map PD.str):=AR.of_AX (k:=81) (by simpa using zIP s hG hs)
theorem zAJ (s:List UInt8) (hG:U8 G) (hs:s.length<=1000000):AX Tryz.prog G 109 [.p (.str s),.p (.str []),.p (.int .i64 0),.p (.int .i64 (-1))] [] (.ms 78) [] [(78,.row 9 1 ((vP s).map PD.str))]:=by
 refine AX.introU tok 60 Tryz.func109 (by kernel_rfl) rfl rfl ?_;simp only[Tryz.f109,qG,bA,bC];have hE:=zIQ (G:=G) hG s hs;refine rgn [] [[0,1,2,3]] ?_;refine op3 ?_;refine qA (AW.seq (rgn [] [[],[0,1,2,3,13]] ?_));iterate 2 refine op3 ?_
 refine qA (cnd ?_ ?_)
 ·intro h13;try simp at h13
 intro h13;try simp at h13
 refine AW.skip (AW.seq (rgn [] [[],[0,1,2,3,15]] ?_));iterate 2 refine op3 ?_
 refine qA (cnd ?_ ?_)
 ·intro h15;try simp at h15
  refine rgn [.nilf,.sl 1 ((vP s).map PD.str),.clo 9 []] [[],[],[18],[8]] ?_;iterate 4 refine op3 ?_ (hv:=by first|exact True.intro|exact hE|(simp;exact hE);done|omega|simp)
  refine qA ?_;exact AW.ret zC
 intro h15;try simp at h15
theorem zAK (hG:U8 G) (s:List UInt8) (hs:s.length<=1000000):AR Tryz.prog G 109 [.str s,.str [],.int .i64 0,.int .i64 (-1)] 9 1 ((vP s).map PD.str):=AR.of_AX (k:=78) (by simpa using zAJ s hG hs)
theorem zQU (s:List UInt8) (hG:U8 G) (hs:s.length<=1000000):AX Tryz.prog G 75 [.p (.str s),.p (.str [])] [] (.ms 67) [] [(67,.row 9 1 ((vP s).map PD.str))]:=by
 refine AX.introU tok 60 Tryz.func75 (by kernel_rfl) rfl rfl ?_;simp only[Tryz.f75,qG,bA,bC];have hE:=zAK (G:=G) hG s hs;refine rgn [] [[0,1]] ?_;refine op3 ?_;refine qA (rgn [.nilf,.sl 1 ((vP s).map PD.str),.clo 9 []] [[],[],[7],[4]] ?_);iterate 4 refine op3 ?_ (hv:=by first|exact True.intro|exact hE|(simp;exact hE);done|omega|simp)
 refine qA ?_;exact AW.ret zC
theorem zQT (hG:U8 G) (s:List UInt8) (hs:s.length<=1000000):AFn Tryz.prog G 75 [.str s,.str []] (.sl 1 ((vP s).map PD.str)):=AFn.of_AX (k:=67) (by simpa using zQU s hG hs)
theorem zVV (s:List UInt8) (hs:s.length<=1000000):AFn Tryz.prog G 65 [.str s] (.int .i64 (Lib.runeCountL s)):=by
 refine AFn.introU tok Tryz.func65 (by kernel_rfl) rfl rfl ?_;simp only[Tryz.f65,qG,bA,bC];have h:=qMU (G:=G) s hs;refine rgn [] [[0]] ?_;refine op3 ?_;refine qA (rgn [.nilp,.int .i64 (Lib.runeCountL s)] [[],[],[2]] ?_);iterate 3 refine oq1 tok h ?_
 exact qA (AW.ret qI)
theorem qZZ (arg:List UInt8) (v:Val) (m:Int) (hn:v.kids.length<=1000000) (hj:(Lib.join (v.kids.map Val.text) arg).length<=1000000000):AFn Tryz.prog G 46 [.agg [.int .u64 m],.str [106,111,105,110],.str arg,v.enc] ((if v.kind=6 then qBD v.kids arg m else qR 40 m).enc):=by
 refine AFn.introU tok Tryz.func46 (by kernel_rfl) rfl rfl ?_;simp only[Tryz.f46,qG,bA,bC];have hf:=zX (G:=G) 40 m;have hc:=xT (G:=G) v.kids (by omega);have ha:=zDV (G:=G) v.kids arg m hn hj;generalize qBD v.kids arg m=W at *;simp only[iK]at hf ha;refine rgn [] [[],[],[1,2,4,7,8]] ?_;iterate 3 refine op3 ?_
 refine qA (AW.seq (rgn [] [[],[],[1,2,4,7,8,12]] ?_));iterate 3 refine op3 ?_
 refine qA (cnd ?_ ?_)
 ·intro h12;try simp at h12
  rw[bD (by simpa using h12)];refine rgn [.nilp,(qR 40 m).enc] [[],[],[8]] ?_;iterate 3 refine oq1 tok hf ?_
  exact qA (AW.ret qI)
 intro h12;try simp at h12
 rw[bE (by simpa using h12)];refine AW.skip (rgn [.nilf,.sl 9 (v.kids.map Val.enc),.clo 31 []] [[],[],[],[1,2,4,8,9]] ?_);iterate 4 refine oq1 tok hc ?_
 refine qA (AW.seq (rgn [] [[]] ?_));refine op3 ?_;refine qA (AW.block (rgn [] [[],[1,2,4,8,9,18,19]] ?_));iterate 2 refine op3 ?_
 refine qA (cnd ?_ ?_)
 ·intro h19;try simp at h19
 intro h19;try simp at h19
 refine rgn [] [[],[1,2,4,8,9,18,26]] ?_;iterate 2 refine op3 ?_
 refine qA (cnd ?_ ?_)
 ·intro h26;try simp at h26
 intro h26;try simp at h26
 refine rgn [] [[],[1,2,4,8,9,18,34]] ?_;iterate 2 refine op3 ?_
 refine qA (cnd ?_ ?_)
 ·intro h34;try simp at h34
 intro h34;try simp at h34
 refine rgn [] [[],[1,2,4,8,9,18,39]] ?_;iterate 2 refine op3 ?_
 refine qA (cnd ?_ ?_)
 ·intro h39;try simp at h39
 intro h39;try simp at h39
 refine rgn [] [[],[1,2,4,8,9,18,44]] ?_;iterate 2 refine op3 ?_
 refine qA (cnd ?_ ?_)
 ·intro h44;try simp at h44
 intro h44;try simp at h44
 refine AW.seq (rgn [] [[],[1,2,4,8,9,18,49]] ?_);iterate 2 refine op3 ?_
 refine qA (cnd ?_ ?_)
 ·intro h49;try simp at h49
 intro h49;try simp at h49
 refine rgz [] [[],[1,2,4,8,9,49]] ?_;iterate 2 refine op3 ?_
 refine qA (cnd ?_ ?_)
 ·intro h49;try simp at h49
 intro h49;try simp at h49
 refine AW.skip ?_;refine lD 17 (by conv=>lhs;simp) ?_;refine rgn [.nilp,W.enc] [[],[],[],[8,59],[8]] ?_;iterate 5 refine oq1 tok ha ?_
 exact qA (AW.ret qI)
theorem zVK (s:List UInt8):(qYG s).length<=40/\Lib.validD (qYG s)=true:=by
 have:=zFH s;unfold qYG;split
 ·exact⟨by decide,by decide +kernel⟩
 rename_i h;exact⟨this,by rw[qED];simpa using h⟩
structure WholeP (d:Dc) (W R:List UInt8):Prop where
 form:xN d=(if d.neg=true then[45] else[])++(W++if R=[] then[] else 46::R)
 wd:W.all qO=true
 rd:R.all qO=true
 wne:W≠[]
 lead:W.length=1\/qS W 0≠48
 norm:yA d.neg (W++R) R.length=(d,0)
 rl:R.length=d.scale.toNat
 wl:W.length<=60/\(R≠[]->W.length<=59)
theorem qJQ {d:Dc} (h:zJ d=true):∃ W R,WholeP d W R:=by
 obtain⟨W,R,hp,hW,hR,h0,h1,hn⟩:=qSN h;obtain⟨⟨_,h2,_,h4⟩,_,h6⟩:=jR h;have hb:=qCB h;have hpa:(yC d).all qO=true:=by unfold yC;rw[dJ,qYH,h4];rfl
 have hpl:(yC d).length=if d.scale.toNat+1<=d.digits.length then d.digits.length else d.scale.toNat+1:=by
  unfold yC;simp[wB];split <;> omega
 have e:W++(if R=[] then[] else 46::R)=(if d.scale=0 then yC d else(yC d).take ((yC d).length-d.scale.toNat)++46::(yC d).drop ((yC d).length-d.scale.toNat)):=by
  unfold xN at hp;exact(List.append_cancel_left hp).symm
 have hFh:∀ b,(if R=[] then[] else(46:UInt8)::R).head?=some b->qO b=false:=by
  split
  ·simp
  intro b hb;simp at hb;subst hb;decide
 obtain⟨t1,t2⟩:=zBZ hW hFh;rw[e]at t1 t2;by_cases hs:d.scale=0
 ·rw[bE hs]at t1 t2;obtain⟨a1,a2⟩:=zVP hpa;rw[a2]at t2;rw[a1]at t1;have hR0:R=[]:=by
   by_cases hR:R=[]
   ·exact hR
   rw[bD hR]at t2;cases t2
  refine⟨W,R,hp,hW,hR,h0,h1,hn,by rw[hR0,hs];rfl, ?_,fun h=>absurd hR0 h⟩;rw[<-t1,hpl];split <;> omega
 rw[bD hs]at t1 t2;have hd46:∀ b,((46:UInt8)::(yC d).drop ((yC d).length-d.scale.toNat)).head?=some b->qO b=false:=by
  intro b hb;simp at hb;subst hb;decide
 obtain⟨b1,b2⟩:=zBZ (W:=(yC d).take ((yC d).length-d.scale.toNat)) (qIH hpa _) hd46;rw[b1]at t1;rw[b2]at t2;have hRn:R≠[]:=by
  intro hR;rw[bE hR]at t2;cases t2
 rw[bD hRn]at t2;have hR2:R=(yC d).drop ((yC d).length-d.scale.toNat):=(List.cons.inj t2).2.symm;have hlen:W.length<=59:=by
  rw[<-t1,cK,hpl];split <;> omega
 refine⟨W,R,hp,hW,hR,h0,h1,hn, ?_,by omega,fun _=>hlen⟩;rw[hR2,bQ,hpl];split <;> omega
theorem zOO (neg:Bool) {v:Nat} (h:v<10 ^ 60):(jC neg v 0).2=0:=by
 have hl:(zA (Lib.decDigits v)).length<=60:=(wCA v 60).2 h;unfold jC yA;generalize zA (Lib.decDigits v)=t at *;by_cases h0:t=[]
 ·subst h0;rfl
 simp[wN,h0,show ¬ 60<t.length by omega]
def qAR (d:Dc):Nat:=zY d.digits / 10 ^ d.scale.toNat
def zU (d:Dc) (far:Bool):Dc × Int:=jC d.neg (qAR d+if far=true then 1 else 0) 0
theorem qMZ {d:Dc} {W R:List UInt8} (h:WholeP d W R):zY d.digits=zY W * 10 ^ R.length+zY R/\zY R<10 ^ R.length/\qAR d=zY W:=by
 have hn:=h.norm;rw[qLT d.neg (by rw[dJ,h.wd,h.rd];rfl),qDF]at hn;obtain⟨n1,n2,n3,n4,n5⟩:=zDM hn;rw[h.rl]at n3 ⊢;rw[gL,Nat.pow_zero,eB]at n3;have hr:=uA h.rd;rw[h.rl]at hr;refine⟨n3,hr, ?_⟩;unfold qAR;rw[n3,fK,Nat.mul_add_div (gJ (by decide)),Nat.div_eq_of_lt hr,cH]
theorem zBR {d:Dc} (h:zJ d=true) {far:Bool} (hf:far=true->0<d.scale) :
  ∃ x,zU d far=(x,0)/\zJ x=true/\x.scale=0/\∀ M:Int,0<=M->zV x M=(if d.neg=true then -1 else 1) * (((qAR d+if far=true then 1 else 0:Nat):Int) * 10 ^ M.toNat):=by
 obtain⟨W,R,hp⟩:=qJQ h;obtain⟨v1,v2,v3⟩:=qMZ hp;have hlt:(qAR d+if far=true then 1 else 0)<10 ^ 60:=by
  have h1:=uA hp.wd;rw[v3];by_cases hfar:far=true
  ·rw[bE hfar];have hs:=hf hfar;have hR:R≠[]:=by intro e;have:=hp.rl;rw[e]at this;simp at this;omega
   have h2:zY W<10 ^ 59:=dR h1 (dI (by decide) (hp.wl.2 hR));have:(10:Nat) ^ 59 * 2<=10 ^ 60:=by decide
   omega
  rw[bD hfar];exact dR h1 (dI (by decide) hp.wl.1)
 have hc:=zOO d.neg hlt;have hx:zU d far=((zU d far).1,0):=Prod.ext rfl hc;generalize hN:(qAR d+if far=true then 1 else 0)=N at *;have hx2:jC d.neg N 0=((zU d far).1,0):=by rw[<-hx];unfold zU;rw[hN]
 obtain⟨n1,n2,n3,n4,n5⟩:=zDM hx2;have hb:=qCB n1;have hs0:(zU d far).1.scale=0:=by omega
 refine⟨_,hx,n1,hs0,fun M hM => ?_⟩;rw[show 0-(zU d far).1.scale.toNat=0 by omega,Nat.pow_zero,eB]at n3;unfold zV;rw[n3,hs0,Int.sub_zero];by_cases hz:N=0
 ·rw[hz]at n5 ⊢;rw[n5 rfl];simp
 rw[n4 hz];rw[Int.natCast_mul,Int.natCast_pow];split
 ·rw[Int.neg_one_mul];rfl
 rw[Int.one_mul];rfl
def qVO (neg:Bool):Dc:=⟨neg,[49],0⟩
theorem zBY (neg:Bool):zJ (qVO neg)=true:=by cases neg <;> decide +kernel
theorem zMZ {d:Dc} (h:zJ d=true):qJF (zU d false).1 (qVO d.neg)=zU d true:=by
 obtain⟨x,h1,h2,h3,h4⟩:=zBR h (far:=false) (fun h=>by cases h);rw[h1,wDE h2 (zBY _)];have hm:wA x (qVO d.neg)=0:=by unfold wA;rw[h3];rfl
 rw[hm,h4 0 (by omega)];have hu:zV (qVO d.neg) 0=if d.neg=true then -1 else 1:=by cases d.neg <;> rfl
 rw[hu];unfold zU zSV;simp only[Int.toNat_zero,Int.pow_zero,Int.mul_one,if_false,eC,cH,if_true];cases d.neg with
 | true =>
  simp only[if_true];rw[show decide ((-1:Int) * (qAR d:Int) + -1<0)=true by simp;omega,show((-1:Int) * (qAR d:Int) + -1).natAbs=qAR d+1 by omega]
 | false =>
  simp only[if_false,eC];rw[show decide ((1:Int) * (qAR d:Int)+1<0)=false by simp;omega,show((1:Int) * (qAR d:Int)+1).natAbs=qAR d+1 by omega]
theorem zBQ {d:Dc} {W R:List UInt8} (h:WholeP d W R):kR ((if d.neg=true then[45] else[])++W)=zU d false:=by
 have:=zDI d.neg W [] h.wd rfl h.wne h.lead;simp only[if_true,cR,dN]at this;rw[this];rw[qLT _ h.wd];unfold zU;rw[(qMZ h).2.2];simp
theorem zGP {d:Dc} {W:List UInt8} (h:WholeP d W []):zU d false=(d,0):=by
 have hn:=h.norm;rw[cR,dN,qLT _ h.wd]at hn;unfold zU;rw[(qMZ h).2.2];simpa using hn
theorem zBS {d:Dc} {W R:List UInt8} (h:WholeP d W R):Lib.indexByte (xN d) 46=if R=[] then -1 else(((if d.neg=true then[45] else[])++W:List UInt8).length:Int):=by
 have hno:(46:UInt8) ∉ ((if d.neg=true then[45] else[])++W:List UInt8):=by
  intro hm;rcases bL.1 hm with hm|hm
  ·split at hm
   ·simp at hm
   simp at hm
  have:=bR.1 h.wd _ hm;revert this;decide
 rw[h.form];by_cases hR:R=[]
 ·rw[bE hR,bE hR,cR];exact qXH hno
 rw[bD hR,bD hR,<-cD];exact qNT hno
theorem zBT (d:Dc) (W R:List UInt8) (hd:zJ d=true) (h:WholeP d W R):AFn Tryz.prog G 111 [d.enc] (.tup [(zU d false).1.enc,.int .u8 (R.getD 0 48).toNat]):=by
 refine AFn.introU tok Tryz.func111 (by kernel_rfl) rfl rfl ?_;simp only[Tryz.f111,qG,bA,bC];have hpr:=qPV (G:=G) d hd;have hix:=qGQ (G:=G) (xN d) 46;rw[show(46:Int).toNat.toUInt8=46 from rfl,zBS h]at hix;have hform:=h.form;have hself:=fun e:R=[]=>zGP (e ▸ h:WholeP d W []);have hl1:=h.wl.1;have hl2:=h.rl;have hb:=qCB hd;have hps:=fun hh=>qPW (G:=G) ((if d.neg=true then[45] else[])++W) hh;rw[zBQ h]at hps;rw[<-cD]at hform;have hpl:((if d.neg=true then[45] else[])++W:List UInt8).length<=61:=by rw[bU];split <;> simp <;> omega
 generalize ((if d.neg=true then[45] else[])++W:List UInt8)=pre at *;have hps:=hps (by omega);generalize xN d=P at *;generalize zU d false=w at *;obtain⟨⟨wn,wd,ws⟩,wc⟩:=w;simp only[Dc.enc]at hpr hps;refine rgn [] [[],[],[1,2]] ?_;iterate 3 refine op3 ?_
 refine qA (rgn [.nilp,.str P] [[],[],[1,2,4]] ?_);iterate 3 refine oq1 tok hpr ?_
 refine qA (rgn [.nilp,.int .i64 (if R=[] then -1 else(pre.length:Int))] [[],[],[1,2,4,5]] ?_);iterate 3 refine oq1 tok hix ?_
 refine qA (AW.seq (rgn [] [[],[1,2,4,5,13]] ?_));iterate 2 refine op3 ?_
 refine qA (cnd ?_ ?_)
 ·intro h13;try simp at h13
  have hR:R=[]:=by
   by_cases hR:R=[]
   ·exact hR
   rw[bD hR]at h13;omega
  have hself:=hself hR;injection hself with g1 g2
  subst g1;subst hR;refine rgn [] [[],[],[2,3]] ?_;iterate 3 refine op3 ?_
  exact qA (AW.ret qI)
 intro h13;try simp at h13
 have hR:R≠[]:=by
  intro hR;rw[bE hR]at h13;omega
 rw[bD hR]at h13 hform;simp only[bD hR];obtain⟨c,R',rfl⟩:∃ c R',R=c::R':=by cases R with
  | nil=>exact absurd rfl hR
  | cons c R=>exact⟨c,R,rfl⟩
 have hPl:P.length=pre.length+1+(R'.length+1):=by rw[hform];simp;omega
 have hPt:P.take pre.length=pre:=by rw[hform,List.take_left]
 have hPi:P[pre.length+1]?=some c:=by rw[hform,cU (by omega)];simp
 refine AW.skip (rgn [.nilp,.tup [.agg [.bool wn,.str wd,.int .i64 ws],.int .i64 wc]] [[],[],[],[],[2,4,5,15],[],[],[],[],[2,4,5,6]] ?_);iterate 10 refine op3 ?_ (hv:=by first|exact True.intro|(rw[hPt];exact hps)|(simp[hPt];omega)|(simp[hPt];exact hps)|(simp[hPt];done)|omega;done|omega|simp)
 refine qA ?_;refine iU tok mixed 6 [[6],[4],[5],[24],[23,25],[2,22]] [.int .u8 c.toNat] [] (by kernel_rfl) ?_;iterate 6 refine d1 ?_ (hv:=by first|exact True.intro|(simp[hPi];done)|(simp[hPi];omega)|omega;done|omega|simp)
 refine DGo.nil (by kernel_rfl) ⟨by kernel_rfl, ?_⟩;refine qB.run [[2,3]] ?_;refine op3 ?_;exact qA (AW.ret qI)
theorem qZT (d:Dc) (far:Bool) (W R:List UInt8) (hd:zJ d=true) (h:WholeP d W R) (hf:far=true->0<d.scale):AFn Tryz.prog G 110 [d.enc,.bool far] (.tup [(zU d far).1.enc,.int .i64 (zU d far).2]):=by
 refine AFn.introU tok Tryz.func110 (by kernel_rfl) rfl rfl ?_;simp only[Tryz.f110,qG,bA,bC];have hw:=zBT (G:=G) d W R hd h;have had:=zMZ hd;obtain⟨x,h1,h2,h3,_⟩:=zBR hd (far:=false) (fun h=>by cases h);have hda:=qYJ (G:=G) x (qVO d.neg) (jR h2).1 (jR (zBY _)).1;rw[h1]at had hw;simp only at had;rw[had]at hda;generalize R.getD 0 48=c at *;simp only[Dc.enc,qVO]at hw hda;refine rgn [] [[],[],[1,2,4]] ?_;iterate 3 refine op3 ?_
 refine qA (rgn [.nilp,.tup [x.enc,.int .u8 c.toNat]] [[],[],[],[],[],[],[1,2,4,6,12],[1,2,4,6]] ?_);iterate 8 refine oq1 tok hw ?_
 refine qA (AW.seq (rgn [] [[],[2,4,6,14]] ?_));iterate 2 refine op3 ?_
 refine qA (cnd ?_ ?_)
 ·intro h14;try simp at h14
  obtain rfl:far=false:=by simpa using h14
  rw[h1];refine rgn [] [[],[],[4,5]] ?_;iterate 3 refine op3 ?_
  exact qA (AW.ret qI)
 intro h14;try simp at h14
 obtain rfl:far=true:=by simpa using h14
 generalize zU d true=w at *;obtain⟨⟨wn,wd,ws⟩,wc⟩:=w;refine AW.skip (rgn [.nilp,.tup [.agg [.bool wn,.str wd,.int .i64 ws],.int .i64 wc]] [[],[],[],[4,16,19],[],[],[],[4,22],[4,5]] ?_);iterate 9 refine oq1 tok hda ?_
 exact qA (AW.ret qI)
theorem zWB (d:Dc) (W R:List UInt8) (hd:zJ d=true) (h:WholeP d W R):AFn Tryz.prog G 76 [d.enc] (.tup [(zU d (d.neg && decide (0<d.scale))).1.enc,.int .i64 (zU d (d.neg && decide (0<d.scale))).2]):=by
 refine AFn.introU tok Tryz.func76 (by kernel_rfl) rfl rfl ?_;simp only[Tryz.f76,qG,bA,bC];have hn:=qZT (G:=G) d (d.neg && decide (0<d.scale)) W R hd h (fun h=>by simp at h;exact h.2);generalize zU d (d.neg && decide (0<d.scale))=w at *;obtain⟨⟨wn,wd,ws⟩,wc⟩:=w;simp only[Dc.enc]at hn;refine rgn [] [[],[],[1,2]] ?_;iterate 3 refine op3 ?_
 refine qA (rgn [.nilp,.tup [.agg [.bool wn,.str wd,.int .i64 ws],.int .i64 wc]] [[],[],[],[],[],[2,4,7,9],[],[],[2,12],[],[],[],[2,3]] ?_);iterate 4 refine op3 ?_ (hv:=by first|exact True.intro|exact hn|(simp at hn ⊢; exact hn)|(simp;done);done|omega|simp)
 iterate 3 refine op4 ?_ (hv:=by first|exact True.intro|exact hn|(simp at hn ⊢; exact hn)|(simp;done);done|omega|simp)
 iterate 6 refine op3 ?_ (hv:=by first|exact True.intro|exact hn|(simp at hn ⊢; exact hn)|(simp;done);done|omega|simp)
 exact qA (AW.ret qI)
theorem zZX (d:Dc) (W R:List UInt8) (hd:zJ d=true) (h:WholeP d W R):AFn Tryz.prog G 77 [d.enc] (.tup [(zU d (!d.neg && decide (0<d.scale))).1.enc,.int .i64 (zU d (!d.neg && decide (0<d.scale))).2]):=by
 refine AFn.introU tok Tryz.func77 (by kernel_rfl) rfl rfl ?_;simp only[Tryz.f77,qG,bA,bC];have hn:=qZT (G:=G) d (!d.neg && decide (0<d.scale)) W R hd h (fun h=>by simp at h;exact h.2);generalize zU d (!d.neg && decide (0<d.scale))=w at *;obtain⟨⟨wn,wd,ws⟩,wc⟩:=w;simp only[Dc.enc]at hn;refine rgn [] [[],[],[1,2]] ?_;iterate 3 refine op3 ?_
 refine qA (rgn [.nilp,.tup [.agg [.bool wn,.str wd,.int .i64 ws],.int .i64 wc]] [[],[],[],[],[],[2,4,8,9],[],[],[2,4,12],[],[],[],[2,15],[2,3]] ?_);iterate 5 refine op3 ?_ (hv:=by first|exact True.intro|exact hn|(simp at hn ⊢; exact hn)|(simp;done);done|omega|simp)
 iterate 3 refine op4 ?_ (hv:=by first|exact True.intro|exact hn|(simp at hn ⊢; exact hn)|(simp;done);done|omega|simp)
 iterate 6 refine op3 ?_ (hv:=by first|exact True.intro|exact hn|(simp at hn ⊢; exact hn)|(simp;done);done|omega|simp)
 exact qA (AW.ret qI)
theorem zOH {d:Dc} {W R:List UInt8} (h:WholeP d W R) (hd:zJ d=true):decide ((53:Int)<=(R.getD 0 48).toNat)=true->0<d.scale:=fun hh=>by
 have hb:=qCB hd;have hl:=h.rl;cases R with
 | nil=>simp at hh
 | cons c R=>simp at hl;omega
theorem zVW (d:Dc) (W R:List UInt8) (hd:zJ d=true) (h:WholeP d W R):AFn Tryz.prog G 78 [d.enc] (.tup [(zU d (decide ((53:Int)<=(R.getD 0 48).toNat))).1.enc,.int .i64 (zU d (decide ((53:Int)<=(R.getD 0 48).toNat))).2]):=by
 refine AFn.introU tok Tryz.func78 (by kernel_rfl) rfl rfl ?_;simp only[Tryz.f78,qG,bA,bC];have hn:=qZT (G:=G) d (decide ((53:Int)<=(R.getD 0 48).toNat)) W R hd h (zOH h hd);have hw:=zBT (G:=G) d W R hd h;generalize R.getD 0 48=c at *;generalize zU d (decide ((53:Int)<=c.toNat))=w at *;obtain⟨⟨wn,wd,ws⟩,wc⟩:=w;generalize zU d false=w0 at *;obtain⟨⟨vn,vd,vs⟩,vc⟩:=w0;simp only[Dc.enc]at hn hw;refine rgn [] [[],[],[1,2]] ?_;iterate 3 refine op3 ?_
 refine qA (rgn [.nilp,.tup [.agg [.bool vn,.str vd,.int .i64 vs],.int .u8 c.toNat]] [[],[],[],[],[],[],[1,2,10],[1,2,5]] ?_);iterate 8 refine oq1 tok hw ?_
 refine qA (rgn [.nilp,.tup [.agg [.bool wn,.str wd,.int .i64 ws],.int .i64 wc]] [[],[],[],[2,14],[],[],[],[2,3]] ?_);iterate 8 refine op3 ?_ (hv:=by first|exact True.intro|exact hn|(simp at hn ⊢; exact hn)|(simp;done);done|omega|simp)
 exact qA (AW.ret qI)
def qSR (call:List UInt8) (d:Dc) (R:List UInt8):Dc × Int:=if call=[102,108,111,111,114] then zU d (d.neg && decide (0<d.scale)) else if call=[99,101,105,108] then zU d (!d.neg && decide (0<d.scale)) else zU d (decide ((53:Int)<=(R.getD 0 48).toNat))
theorem qBZ (call:List UInt8) (v:Val) (m:Int) (W R:List UInt8) (hm:v.kind=4->zJ v.num=true/\WholeP v.num W R):AFn Tryz.prog G 43 [.agg [.int .u64 m],.str call,v.enc] ((if v.kind=4 then xJ (qSR call v.num R) m else qR 40 m).enc):=by
 refine AFn.introU tok Tryz.func43 (by kernel_rfl) rfl rfl ?_;simp only[Tryz.f43,qG,bA,bC];have hf:=zX (G:=G) 40 m;simp only[iK]at hf;refine rgn [] [[],[],[1,3,5,6]] ?_;iterate 3 refine op3 ?_
 refine qA (AW.seq (rgn [] [[],[],[1,3,5,6,9]] ?_));iterate 3 refine op3 ?_
 refine qA (cnd ?_ ?_)
 ·intro h9;try simp at h9
  rw[bD (by simpa using h9)];refine rgn [.nilp,(qR 40 m).enc] [[],[],[6]] ?_;iterate 3 refine oq1 tok hf ?_
  exact qA (AW.ret qI)
 intro h9;try simp at h9
 rw[bE (by simpa using h9)];obtain⟨hd,hp⟩:=hm (by simpa using h9);have e:qSR call v.num R=if call=[102,108,111,111,114] then zU v.num (v.num.neg && decide (0<v.num.scale)) else if call=[99,101,105,108] then zU v.num (!v.num.neg && decide (0<v.num.scale)) else zU v.num (decide ((53:Int)<=(R.getD 0 48).toNat)):=rfl
 rw[e];have f1:=zWB (G:=G) v.num W R hd hp;have f2:=zZX (G:=G) v.num W R hd hp;have f3:=zVW (G:=G) v.num W R hd hp;have hr:=fun r=>uU (G:=G) r m;simp only[iK,Dc.enc]at f1 f2 f3 hr;refine AW.skip (AW.seq (rgn [] [[3,5,6,12]] ?_));refine op3 ?_;refine qA (AW.block (rgn [] [[],[3,5,6,12,13]] ?_));iterate 2 refine op3 ?_
 refine qA (cnd ?_ ?_)
 ·intro h13;try simp at h13
  rw[bE h13];have hr:=hr (zU v.num (v.num.neg && decide (0<v.num.scale)));generalize zU v.num (v.num.neg && decide (0<v.num.scale))=w at *;obtain⟨⟨wn,wd,ws⟩,wc⟩:=w;generalize xJ ⟨⟨wn,wd,ws⟩,wc⟩ m=X at *;refine iL tok mixed [6] 7 [[3],[5],[16],[17],[18],[18],[15,19,20]] [.nilp,.tup [.agg [.bool wn,.str wd,.int .i64 ws],.int .i64 wc],.nilp,X.enc] [] (by kernel_rfl) (by intro C;conv=>lhs;simp) (by first|exact⟨f1,hr⟩|(simp at f1 hr ⊢; exact⟨f1,hr⟩)) (by simp[Sm.sum,Sm.foot,Sm.tch,Sm.refs];kernel_rfl) (by intro C;conv=>lhs;simp) (by first|exact True.intro|omega|simp) ?_;exact AW.ret qI
 intro h13;try simp at h13
 rw[bD h13];refine rgn [] [[],[3,5,6,22]] ?_;iterate 2 refine op3 ?_
 refine qA (cnd ?_ ?_)
 ·intro h22;try simp at h22
  rw[bE h22];have hr:=hr (zU v.num (!v.num.neg && decide (0<v.num.scale)));generalize zU v.num (!v.num.neg && decide (0<v.num.scale))=w at *;obtain⟨⟨wn,wd,ws⟩,wc⟩:=w;generalize xJ ⟨⟨wn,wd,ws⟩,wc⟩ m=X at *;refine iL tok mixed [6] 7 [[3],[5],[25],[26],[27],[27],[24,28,29]] [.nilp,.tup [.agg [.bool wn,.str wd,.int .i64 ws],.int .i64 wc],.nilp,X.enc] [] (by kernel_rfl) (by intro C;conv=>lhs;simp) (by first|exact⟨f2,hr⟩|(simp at f2 hr ⊢; exact⟨f2,hr⟩)) (by simp[Sm.sum,Sm.foot,Sm.tch,Sm.refs];kernel_rfl) (by intro C;conv=>lhs;simp) (by first|exact True.intro|omega|simp) ?_;exact AW.ret qI
 intro h22;try simp at h22
 rw[bD h22];have hr:=hr (zU v.num (decide ((53:Int)<=(R.getD 0 48).toNat)));generalize zU v.num (decide ((53:Int)<=(R.getD 0 48).toNat))=w at *;obtain⟨⟨wn,wd,ws⟩,wc⟩:=w;generalize xJ ⟨⟨wn,wd,ws⟩,wc⟩ m=X at *;refine AW.skip ?_;refine iL tok mixed [6] 7 [[3],[5],[32],[33],[34],[34],[31,35,36]] [.nilp,.tup [.agg [.bool wn,.str wd,.int .i64 ws],.int .i64 wc],.nilp,X.enc] [] (by kernel_rfl) (by intro C;conv=>lhs;simp) (by first|exact⟨f3,hr⟩|(simp at f3 hr ⊢; exact⟨f3,hr⟩)) (by simp[Sm.sum,Sm.foot,Sm.tch,Sm.refs];kernel_rfl) (by intro C;conv=>lhs;simp) (by first|exact True.intro|omega|simp) ?_;exact AW.ret qI
theorem zOS (arg:List UInt8) (v:Val) (m:Int) (hs:v.kind=5->v.text.length<=1000000000):AFn Tryz.prog G 42 [.agg [.int .u64 m],.str [116,111,110,117,109,98,101,114],.str arg,v.enc] ((if v.kind=5 then xJ (kR v.text) m else qR 40 m).enc):=by
 refine AFn.introU tok Tryz.func42 (by kernel_rfl) rfl rfl ?_;simp only[Tryz.f42,qG,bA,bC];have hf:=zX (G:=G) 40 m;have hp:=fun h=>qPW (G:=G) v.text h;have hr:=uU (G:=G) (kR v.text) m;generalize kR v.text=w at *;generalize hX:xJ w m=X at *;obtain⟨⟨wn,wd,ws⟩,wc⟩:=w;simp only[iK,Dc.enc]at hf hp hr;refine rgn [] [[],[],[1,2,4,7,8]] ?_;iterate 3 refine op3 ?_
 refine qA (AW.seq (rgn [] [[],[],[1,2,4,7,8,13]] ?_));iterate 3 refine op3 ?_
 refine qA (cnd ?_ ?_)
 ·intro h13;try simp at h13
  rw[bD (by simpa using h13)];refine rgn [.nilp,(qR 40 m).enc] [[],[],[8]] ?_;iterate 3 refine oq1 tok hf ?_
  exact qA (AW.ret qI)
 intro h13;try simp at h13
 rw[bE (by simpa using h13)];have hp:=hp (hs (by simpa using h13));refine AW.skip (AW.seq (rgn [] [[2,4,7,8,16]] ?_));refine op3 ?_;refine qA (AW.block (rgn [] [[],[2,4,7,8,16,17]] ?_));iterate 2 refine op3 ?_
 refine qA (cnd ?_ ?_)
 ·intro h17;try simp at h17
 intro h17;try simp at h17
 refine rgn [] [[],[2,4,7,8,16,34]] ?_;iterate 2 refine op3 ?_
 refine qA (cnd ?_ ?_)
 ·intro h34;try simp at h34
 intro h34;try simp at h34
 refine rgn [] [[],[2,4,7,8,16,42]] ?_;iterate 2 refine op3 ?_
 refine qA (cnd ?_ ?_)
 ·intro h42;try simp at h42
 intro h42;try simp at h42
 refine rgn [] [[],[2,4,7,8,50]] ?_;iterate 2 refine op3 ?_
 refine qA (cnd ?_ ?_)
 ·intro h50;try simp at h50
  refine iL tok mixed [8] 7 [[4],[7],[53],[54],[55],[55],[52,56,57]] [.nilp,.tup [.agg [.bool wn,.str wd,.int .i64 ws],.int .i64 wc],.nilp,X.enc] [] (by kernel_rfl) (by intro C;conv=>lhs;simp) (by first|exact⟨hp,hr⟩|(simp at hp hr ⊢; exact⟨hp,hr⟩)) (by simp[Sm.sum,Sm.foot,Sm.tch,Sm.refs];kernel_rfl) (by intro C;conv=>lhs;simp) (by first|exact True.intro|omega|simp) ?_;exact AW.ret qI
 intro h50;try simp at h50
theorem wHQ {n:Int} (h:0<=n/\n<9223372036854775808):IntKind.i64.wrap n=n:=by simp[IntKind.wrap,IntKind.bits,IntKind.signed];omega
@[simp] theorem wHM (d:Dc):(exN d).num=d:=rfl
end Go.Proofs.YtgcbapchinideaaGreatDoor
