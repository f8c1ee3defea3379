import Derived.Test.YtgcbapchinideaaGreatDoorK2
import Derived.Test.YtgcbapchinideaaGreatDoorM3
import Derived.Test.YtgcbapchinideaaGreatDoorM4
import Derived.RangeFuncBox
import Derived.RangeFuncLeaves
import Derived.Shelf.Abstract
import Derived.WalkKit
import Derived.OwnWalkIn
import Derived.TacticsInMore
import Derived.LoopNIn
import Derived.LoopIn
import Derived.Maps.AppendAt
import Derived.Shelf.Sort.Plain
import Derived.Test.YtgcbapchinideaaGreatDoorProg
import Derived.Shelf.Unicode.DecodeAny
import Derived.Shelf.Small.Strs
import Derived.Shelf.Strings.Repeat
import Derived.Shelf.Strings.Builder1
import Derived.Shelf.Strings.OnBuilder
import Derived.Shelf.Slices.In.SortNone
import Derived.Sort.OwnSorted
import Derived.Lib.Repeat
import Derived.Lib.ValidLaws
import Derived.Shelf.Unicode.ValidAny
set_option linter.all false
namespace Go.Proofs.YtgcbapchinideaaGreatDoor
open Sy Go
set_option maxRecDepth 100000
set_option maxHeartbeats 4000000
variable {G:qT}
def vH (s:List UInt8):Bool:=decide (0<s.length) && decide (qS s 0=45)
def qGT (s:List UInt8) (k:Nat) (digits:List UInt8):Option (Nat × List UInt8 × Nat) :=
 if k<s.length/\qS s k=46 then(if zT s (k+1)=0 then none else some (k+1+zT s (k+1),digits++(s.take (k+1+zT s (k+1))).drop (k+1),zT s (k+1))) else some (k,digits,0)
def upM (s:List UInt8) (k:Nat):Nat->Int
 | 0=>0
 | i+1=>10 * upM s k i+(qS s (k+i)-48)
def yQ (s:List UInt8) (k:Nat):Nat:=if k<s.length/\(qS s k=45\/qS s k=43) then k+1 else k
def qHG (s:List UInt8) (k:Nat):Option (Nat × Int) :=
 if k<s.length/\(qS s k=101\/qS s k=69) then
  (if zT s (yQ s (k+1))<1\/2<zT s (yQ s (k+1)) then none
   else some (yQ s (k+1)+zT s (yQ s (k+1)),if k+1<s.length/\qS s (k+1)=45 then-upM s (yQ s (k+1)) (zT s (yQ s (k+1))) else upM s (yQ s (k+1)) (zT s (yQ s (k+1)))))
 else some (k,0)
def xF:Dc × Int:=(⟨false,[],0⟩,4)
def uR (neg:Bool) (digits:List UInt8) (sc:Int):Dc × Int:=if sc<0 then yA neg (digits++wB (-sc).toNat) 0 else yA neg digits sc.toNat
def qAZ (s:List UInt8) (neg:Bool) (digits:List UInt8) (scale:Nat):Option (Nat × Int)->Dc × Int
 | none=>xF
 | some (k,up)=>if k=s.length then uR neg digits (scale-up) else xF
def qLG (s:List UInt8) (neg:Bool):Option (Nat × List UInt8 × Nat)->Dc × Int
 | none=>xF
 | some (k,digits,scale)=>qAZ s neg digits scale (qHG s k)
def a0M (s:List UInt8):Nat:=if vH s=true then 1 else 0
def vW (s:List UInt8):Dc × Int :=
 if zT s (a0M s)=0\/(1<zT s (a0M s)/\qS s (a0M s)=48) then xF
 else qLG s (vH s) (qGT s (a0M s+zT s (a0M s)) ((s.take (a0M s+zT s (a0M s))).drop (a0M s)))
theorem qLL (s:List UInt8) (k:Nat) (h:k<=s.length):k+zT s k<=s.length:=by
 unfold zT;have:=(List.takeWhile_sublist (l:=s.drop k) fun b:UInt8=>xZ b.toNat).length_le;simp at this;omega
theorem zCY {s:List UInt8} {k:Nat} (h:0<zT s k):k<s.length:=((qZC (fC _)).1 h).1
theorem qCJ {s:List UInt8} {k i:Nat} (h:i<zT s k):k+i<s.length/\48<=qS s (k+i)/\qS s (k+i)<=57:=by
 have:=(qZC (Nat.le_of_lt h)).1 h;simpa[xZ]using this
theorem zNB {s:List UInt8} {k:Nat}:∀ {i:Nat},i<=2->i<=zT s k->0<=upM s k i/\upM s k i<=99/\(i<=1->upM s k i<=9)
 | 0,_,_=>by simp[upM]
 | 1,_,h=>by have:=qCJ (s:=s) (k:=k) (i:=0) (by omega);simp[upM]at this ⊢; omega
 | 2,_,h=>by
  have h1:=qCJ (s:=s) (k:=k) (i:=0) (by omega);have h2:=qCJ (s:=s) (k:=k) (i:=1) (by omega);simp[upM]at h1 h2 ⊢; omega
theorem zVR (s:List UInt8):a0M s<=1:=by unfold a0M;split <;> omega
theorem zVY (s:List UInt8) (hs:s.length<=100000):AFn Tryz.prog G 26 [.str s] (.tup [(vW s).1.enc,.int .i64 (vW s).2]):=by
 refine AFn.introU tok Tryz.func26 (by kernel_rfl) rfl rfl ?_;simp only[Tryz.f26,qG,bA,bC];have hrun:=fun k hk=>wBN (G:=G) s k (by omega) hk;have hix:∀ k:Nat,k<s.length->s[k]?=some (s.getD k 0):=fun k h=>xM h;refine rgn [] [[],[0,2]] ?_;iterate 2 refine op3 ?_
 refine qA (rgn [] [[]] ?_);refine op3 ?_;refine qA (rgn [.int .u8 (qS s 0)] [[],[],[],[],[],[0,2,4,15,17],[],[],[0,2,4,5]] ?_);iterate 4 refine op3 ?_ (hv:=by first|exact True.intro|exact fun h=>⟨h,by omega,_,hix 0 (by omega),rfl⟩|exact fun h=>⟨h,_,hix 0 (by omega),rfl⟩|simp;done|omega|simp)
 iterate 3 refine op4 ?_ (hv:=by first|exact True.intro|exact fun h=>⟨h,by omega,_,hix 0 (by omega),rfl⟩|exact fun h=>⟨h,_,hix 0 (by omega),rfl⟩|simp;done|omega|simp)
 iterate 2 refine op3 ?_ (hv:=by first|exact True.intro|exact fun h=>⟨h,by omega,_,hix 0 (by omega),rfl⟩|exact fun h=>⟨h,_,hix 0 (by omega),rfl⟩|simp;done|omega|simp)
 refine qA ?_;refine AW.join (α:=Unit) (fun _=>True) (fun a=>⟨qZ 175 [(0,.p (.str s)),(2,.ptr 2 0),(4,.p (.int .i64 (a0M s))),(5,.p (.bool (vH s)))],[],[(2,.vars 26 [.p (.bool false),.p (.str []),.p (.int .i64 0)])],0⟩) ?_ ?_
 ·
  refine rgn [] [[]] ?_;refine op3 ?_;refine qA (cnd ?_ ?_)
  ·intro h20;try simp at h20
   refine rgz [] [[]] ?_;refine op3 ?_;refine qA ?_;exact⟨(),trivial,qE (by simp[a0M,vH,h20]),rfl,by simp[a0M,vH,h20],by simp[a0M,vH,h20]⟩
  intro h20;try simp at h20
  have hneg:vH s=false:=by
   rw[<-Bool.not_eq_true];intro h;simp only[vH,bI,bY]at h;exact h20 h.1 h.2
  have hneg0:=hneg;have ha00:a0M s=0:=by simp[a0M,hneg]
  simp only[vH]at hneg0;refine AW.skip ?_;exact⟨(),trivial,qE (by simp[ha00,hneg0,hneg]),rfl,by simp[ha00,hneg0,hneg],by simp[ha00,hneg0,hneg]⟩
 ·
  rintro a hI;have ha0:=zVR s;have hn0:=qZD s (a0M s);have hp0:=zCY (s:=s) (k:=a0M s);have hin0:=qLL s (a0M s);refine rgn [.nilp,.int .i64 (zT s (a0M s))] [[],[],[],[0,2,4,5,6]] ?_;iterate 4 refine op3 ?_ (hv:=by first|exact True.intro|(simp[hrun (a0M s) (by have:=zVR s;omega)];done)|omega|simp)
  refine qA (AW.seq (rgn [.int .u8 (qS s (a0M s))] [[],[],[],[],[],[0,2,4,5,6,26,29],[],[],[],[],[0,2,4,5,6,26,34],[0,2,4,5,6,35]] ?_));iterate 3 refine op3 ?_ (hv:=by first|exact True.intro|exact fun h1 h2=>⟨⟨h1,h2⟩,_,hix (a0M s) (hp0 (by omega)),rfl⟩|exact fun h1=>⟨h1,fun h2=>⟨h1,h2⟩⟩|simp;done|omega|simp)
  iterate 8 refine op4 ?_ (hv:=by first|exact True.intro|exact fun h1 h2=>⟨⟨h1,h2⟩,_,hix (a0M s) (hp0 (by omega)),rfl⟩|exact fun h1=>⟨h1,fun h2=>⟨h1,h2⟩⟩|simp;done|omega|simp)
  refine op3 ?_ (hv:=by first|exact True.intro|exact fun h1 h2=>⟨⟨h1,h2⟩,_,hix (a0M s) (hp0 (by omega)),rfl⟩|exact fun h1=>⟨h1,fun h2=>⟨h1,h2⟩⟩|simp;done|omega|simp);refine qA (cnd ?_ ?_)
  ·intro h35;try simp at h35
   have hP:vW s=xF:=by unfold vW;rw[bE (by omega)]
   refine rgn [] [[],[],[2,3]] ?_;iterate 3 refine op3 ?_
   refine qA ?_;exact AW.ret (qI (k:=by simp[hP,xF]))
  intro h35;try simp at h35
  have hP:vW s=qLG s (vH s) (qGT s (a0M s+zT s (a0M s)) ((s.take (a0M s+zT s (a0M s))).drop (a0M s))):=by unfold vW;rw[bD (by omega)]
  rw[hP];have hin:=hin0 (by have:=hp0 (by omega);omega);generalize hdg:(s.take (a0M s+zT s (a0M s))).drop (a0M s)=dg0;have hdgl:dg0.length<=s.length:=by rw[<-hdg];simp;omega
  obtain⟨k1,hk1⟩:∃ k1,k1=a0M s+zT s (a0M s):=⟨_,rfl⟩;rw[<-hk1]at hin hdg ⊢;refine AW.skip (rgn [] [[],[],[],[],[],[0,2,4,5,6,42],[0,2,4,5,6,7]] ?_);iterate 7 refine op3 ?_ (hv:=by first|exact True.intro|(omega;done)|omega|simp)
  refine qA (rgn [] [[],[],[0,2,5,7,45],[0,2,4,5,7]] ?_);iterate 4 refine op3 ?_
  refine qA ?_;rw[show((a0M s:Int)+(zT s (a0M s):Nat))=(k1:Nat) by omega];refine rgn [] [[]] ?_;refine op3 ?_;refine qA ?_;refine AW.join (α:=Nat × List UInt8 × Nat) (fun a=>qGT s k1 dg0=some a/\a.1<=s.length/\a.2.1.length<=200000/\a.2.2<=s.length) (fun a=>⟨qZ 175 [(0,.p (.str s)),(2,.ptr 2 0),(4,.p (.int .i64 a.1)),(5,.p (.bool (vH s))),(7,.p (.str a.2.1)),(8,.p (.int .i64 a.2.2))],[],[(2,.vars 26 [.p (.bool false),.p (.str []),.p (.int .i64 0)])],0⟩) ?_ ?_
  ·
   have hr1:=qLL s (k1+1);refine rgn [.int .u8 (qS s k1)] [[],[],[],[],[0,2,4,5,7,8,50],[],[],[],[],[0,2,4,5,7,8,55]] ?_;iterate 5 refine op3 ?_ (hv:=by first|exact True.intro|exact fun h=>⟨h,_,hix k1 (by omega),rfl⟩|simp;done|omega|simp)
   iterate 4 refine op4 ?_ (hv:=by first|exact True.intro|exact fun h=>⟨h,_,hix k1 (by omega),rfl⟩|simp;done|omega|simp)
   refine op3 ?_ (hv:=by first|exact True.intro|exact fun h=>⟨h,_,hix k1 (by omega),rfl⟩|simp;done|omega|simp);refine qA (cnd ?_ ?_)
   ·intro h55;try simp at h55
    refine rgn [.nilp,.int .i64 (zT s (k1+1))] [[],[],[],[],[0,2,4,5,7,8]] ?_;iterate 5 refine op3 ?_ (hv:=by first|exact True.intro|omega|exact hrun (k1+1) (by omega);done|omega|simp)
    refine qA (AW.seq (rgn [] [[],[0,2,4,5,7,8,61]] ?_));iterate 2 refine op3 ?_
    refine qA (cnd ?_ ?_)
    ·intro h61;try simp at h61
     have hP2:qGT s k1 dg0=none:=by simp[qGT,h55.1,h55.2,h61]
     refine rgn [] [[],[],[2,3]] ?_;iterate 3 refine op3 ?_
     refine qA ?_;exact AW.ret (qI (k:=by simp[hP2,qLG,xF]))
    intro h61;try simp at h61
    refine AW.skip (rgn [] [[],[],[],[],[],[],[],[0,2,4,5,8,63,64,66,70],[],[0,2,4,5,8,72],[0,2,4,5,7,8]] ?_);iterate 11 refine op3 ?_
    refine qA (rgz [] [[],[],[],[0,2,5,7,8,76],[0,2,4,5,7,8]] ?_);iterate 5 refine op3 ?_
    refine qA ?_;exact⟨(k1+1+zT s (k1+1),dg0++(s.take (k1+1+zT s (k1+1))).drop (k1+1),zT s (k1+1)),⟨by simp[qGT,h55.1,h55.2,h61],hr1 (by omega),by simp;omega,by have:=hr1 (by omega);show zT s (k1+1)<=s.length;omega⟩,qE (by simp[hdg,show((k1:Int)+1+(zT s (k1+1):Nat)).toNat=k1+1+zT s (k1+1) from by omega]),rfl,by simp[hdg,show((k1:Int)+1+(zT s (k1+1):Nat)).toNat=k1+1+zT s (k1+1) from by omega],by simp[hdg,show((k1:Int)+1+(zT s (k1+1):Nat)).toNat=k1+1+zT s (k1+1) from by omega]⟩
   intro h55;try simp at h55
   refine AW.skip ?_;exact⟨(k1,dg0,0),⟨by simp only[qGT];rw[bD (by intro h;exact h55 h.1 h.2)],hin,by show dg0.length<=200000;omega,by simp⟩,qE (by simp[hdg]),rfl,by simp[hdg],by simp[hdg]⟩
  ·
   rintro⟨k,digits,scale⟩ ⟨hp2,hk,hdl,hsc⟩;simp only at hk hdl hsc;have hT:qLG s (vH s) (qGT s k1 dg0)=qAZ s (vH s) digits scale (qHG s k):=by rw[hp2];rfl
   rw[hT];have hix1:(k:Int)+1<s.length->s[((k:Int)+1).toNat]?=some (s.getD (k+1) 0):=fun h=>by rw[show((k:Int)+1).toNat=k+1 by omega];exact hix (k+1) (by omega)
   refine rgn [] [[]] ?_;refine op3 ?_;refine qA ?_;refine AW.join (α:=Nat × Int) (fun b=>qHG s k=some b/\b.1<=300000 /\ -99<=b.2/\b.2<=99) (fun b=>⟨qZ 175 [(0,.p (.str s)),(2,.ptr 2 0),(4,.p (.int .i64 b.1)),(5,.p (.bool (vH s))),(7,.p (.str digits)),(8,.p (.int .i64 scale)),(9,.p (.int .i64 b.2))],[],[(2,.vars 26 [.p (.bool false),.p (.str []),.p (.int .i64 0)])],0⟩) ?_ ?_
   ·
    refine rgn [.int .u8 (qS s k),.int .u8 (qS s k)] [[],[],[],[],[0,2,4,5,7,8,9,81],[],[],[],[],[0,2,4,5,7,8,9,81,86],[],[],[],[],[0,2,4,5,7,8,9,81,91],[0,2,4,5,7,8,9,92]] ?_;iterate 5 refine op3 ?_ (hv:=by first|exact True.intro|(((repeat' (first|with_reducible apply And.intro|intro _)) <;> first|omega|assumption|contradiction|exact⟨_,hix _ (by omega),rfl⟩|simp_all);done)|omega|simp)
    iterate 10 refine op4 ?_ (hv:=by first|exact True.intro|(((repeat' (first|with_reducible apply And.intro|intro _)) <;> first|omega|assumption|contradiction|exact⟨_,hix _ (by omega),rfl⟩|simp_all);done)|omega|simp)
    refine op3 ?_ (hv:=by first|exact True.intro|(((repeat' (first|with_reducible apply And.intro|intro _)) <;> first|omega|assumption|contradiction|exact⟨_,hix _ (by omega),rfl⟩|simp_all);done)|omega|simp);refine qA (cnd ?_ ?_)
    ·intro h92;try simp at h92
     refine rgn [] [[],[],[0,2,4,5,7,8,9]] ?_;iterate 3 refine op3 ?_
     refine qA (rgn [.int .u8 (qS s (k+1))] [[],[],[],[],[0,2,4,5,7,8,9,99],[],[],[],[],[0,2,4,5,7,8,9,104],[0,2,4,5,7,8,9,10]] ?_);iterate 5 refine op3 ?_ (hv:=by first|exact True.intro|(((repeat' (first|with_reducible apply And.intro|intro _)) <;> first|omega|assumption|contradiction|exact⟨_,hix _ (by omega),rfl⟩|simp_all);done)|omega|simp)
     iterate 4 refine op4 ?_ (hv:=by first|exact True.intro|(((repeat' (first|with_reducible apply And.intro|intro _)) <;> first|omega|assumption|contradiction|exact⟨_,hix _ (by omega),rfl⟩|simp_all);done)|omega|simp)
     iterate 2 refine op3 ?_ (hv:=by first|exact True.intro|(((repeat' (first|with_reducible apply And.intro|intro _)) <;> first|omega|assumption|contradiction|exact⟨_,hix _ (by omega),rfl⟩|simp_all);done)|omega|simp)
     refine qA ?_;refine AW.join (α:=Unit) (fun _=>True) (fun a=>⟨qZ 175 [(0,.p (.str s)),(2,.ptr 2 0),(4,.p (.int .i64 (yQ s (k+1)))),(5,.p (.bool (vH s))),(7,.p (.str digits)),(8,.p (.int .i64 scale)),(9,.p (.int .i64 0)),(10,.p (.bool (decide (k+1<s.length) && decide (qS s (k+1)=45))))],[],[(2,.vars 26 [.p (.bool false),.p (.str []),.p (.int .i64 0)])],0⟩) ?_ ?_
     ·
      refine rgn [.int .u8 (qS s (k+1)),.int .u8 (qS s (k+1))] [[],[],[],[],[0,2,4,5,7,8,9,10,109],[],[],[],[],[0,2,4,5,7,8,9,10,109,114],[],[],[],[],[0,2,4,5,7,8,9,10,109,119],[0,2,4,5,7,8,9,10,120]] ?_;iterate 5 refine op3 ?_ (hv:=by first|exact True.intro|(((repeat' (first|with_reducible apply And.intro|intro _)) <;> first|omega|assumption|contradiction|exact⟨_,hix _ (by omega),rfl⟩|simp_all);done)|omega|simp)
      iterate 10 refine op4 ?_ (hv:=by first|exact True.intro|(((repeat' (first|with_reducible apply And.intro|intro _)) <;> first|omega|assumption|contradiction|exact⟨_,hix _ (by omega),rfl⟩|simp_all);done)|omega|simp)
      refine op3 ?_ (hv:=by first|exact True.intro|(((repeat' (first|with_reducible apply And.intro|intro _)) <;> first|omega|assumption|contradiction|exact⟨_,hix _ (by omega),rfl⟩|simp_all);done)|omega|simp);refine qA (cnd ?_ ?_)
      ·intro h120;try simp at h120
       refine rgz [] [[],[],[0,2,4,5,7,8,9,10]] ?_;iterate 3 refine op3 ?_
       refine qA ?_;exact⟨(),trivial,qE (by simp[show yQ s (k+1)=k+1+1 from by(unfold yQ;rw[bE ⟨by omega,h120.2⟩]),show((k:Int)+1<(s.length:Int))=(k+1<s.length) from propext (by omega)]),rfl,by simp[show yQ s (k+1)=k+1+1 from by(unfold yQ;rw[bE ⟨by omega,h120.2⟩]),show((k:Int)+1<(s.length:Int))=(k+1<s.length) from propext (by omega)],by simp[show yQ s (k+1)=k+1+1 from by(unfold yQ;rw[bE ⟨by omega,h120.2⟩]),show((k:Int)+1<(s.length:Int))=(k+1<s.length) from propext (by omega)]⟩
      intro h120;try simp at h120
      refine AW.skip ?_;exact⟨(),trivial,qE (by simp[show yQ s (k+1)=k+1 from by(unfold yQ;rw[bD (by intro h;have:=h120 (by omega);omega)]),show((k:Int)+1<(s.length:Int))=(k+1<s.length) from propext (by omega)]),rfl,by simp[show yQ s (k+1)=k+1 from by(unfold yQ;rw[bD (by intro h;have:=h120 (by omega);omega)]),show((k:Int)+1<(s.length:Int))=(k+1<s.length) from propext (by omega)],by simp[show yQ s (k+1)=k+1 from by(unfold yQ;rw[bD (by intro h;have:=h120 (by omega);omega)]),show((k:Int)+1<(s.length:Int))=(k+1<s.length) from propext (by omega)]⟩
     ·
      rintro a hI;have hsg:yQ s (k+1)<=s.length+1:=by unfold yQ;split <;> omega
      have hin3:=qLL s (yQ s (k+1));have hp3:=zCY (s:=s) (k:=yQ s (k+1));have hn3:=qZD s (yQ s (k+1));obtain⟨k3,hk3⟩:∃ k3,k3=yQ s (k+1):=⟨_,rfl⟩;rw[<-hk3]at hsg hin3 hp3 hn3 ⊢;refine rgn [.nilp,.int .i64 (zT s k3)] [[],[],[],[0,2,4,5,6,7,8,9,10]] ?_;iterate 4 refine op3 ?_ (hv:=by first|exact True.intro|(exact hrun k3 (by omega);done)|omega|simp)
      refine qA (AW.seq (rgn [] [[],[],[],[],[],[0,2,4,5,6,7,8,9,10,131]] ?_));iterate 3 refine op3 ?_
      iterate 2 refine op4 ?_
      refine op3 ?_;refine qA (cnd ?_ ?_)
      ·intro h131;try simp at h131
       have hP3:qHG s k=none:=by simp only[qHG];rw[bE h92,<-hk3,bE (by omega)]
       refine rgn [] [[],[],[2,3]] ?_;iterate 3 refine op3 ?_
       refine qA ?_;exact AW.ret (qI (k:=by simp[hP3,qAZ,xF]))
      intro h131;try simp at h131
      have hP3:qHG s k=some (k3+zT s k3,if k+1<s.length/\qS s (k+1)=45 then-upM s k3 (zT s k3) else upM s k3 (zT s k3)):=by simp only[qHG];rw[bE h92,<-hk3,bD (by omega)]
      have hk3l:k3<s.length:=hp3 (by omega);have hdig:=fun i=>qCJ (s:=s) (k:=k3) (i:=i);refine AW.skip (AW.seq (rgn [] [[]] ?_));refine op3 ?_;refine qA (AW.block ?_);refine AW.loop (α:=Nat) (fun i=>i<=zT s k3) (fun i=>⟨qZ 175 [(0,.p (.str s)),(2,.ptr 2 0),(4,.p (.int .i64 k3)),(5,.p (.bool (vH s))),(6,.p (.int .i64 (zT s k3))),(7,.p (.str digits)),(8,.p (.int .i64 scale)),(9,.p (.int .i64 (upM s k3 i))),(10,.p (.bool (decide (k+1<s.length) && decide (qS s (k+1)=45)))),(11,.p (.int .i64 i))],[],[(2,.vars 26 [.p (.bool false),.p (.str []),.p (.int .i64 0)])],0⟩) (fun i=>zT s k3-i) (0) (by omega) ⟨qE (by simp[upM]),rfl,by simp,by simp⟩ ?_;rintro i hi;have hup:=zNB (s:=s) (k:=k3) (i:=i) (by omega) hi;refine AW.seq (rgn [] [[],[],[0,2,4,5,6,7,8,9,10,11,135]] ?_);iterate 3 refine op3 ?_
      refine qA (cnd ?_ ?_)
      ·intro h135;try simp at h135
       have hdi:=hdig i h135;have hw:IntKind.u8.wrap (qS s (k3+i)-48)=qS s (k3+i)-48:=by simp[IntKind.wrap,IntKind.bits,IntKind.signed];omega
       refine AW.skip (AW.seq (AW.block (rgz [.int .u8 (qS s (k3+i))] [[],[],[],[],[],[0,2,4,5,6,7,8,10,11,139,140,143],[],[],[0,2,4,5,6,7,8,10,11,139,146],[],[0,2,4,5,6,7,8,9,10,11]] ?_)));iterate 11 refine op3 ?_ (hv:=by first|exact True.intro|(((repeat' (first|with_reducible apply And.intro|intro _)) <;> first|omega|assumption|contradiction|exact⟨_,hix _ (by omega),rfl⟩|(rw[hw];omega)|simp_all);done)|omega|simp)
       refine qA (rgz [] [[],[],[0,2,4,5,6,7,8,9,10,11]] ?_);iterate 3 refine op3 ?_
       refine qA ?_;exact⟨i+1,by omega,by omega,qE (by simp[upM,hw]),rfl,by simp[upM,hw],by simp[upM,hw]⟩
      intro h135;try simp at h135
      have hi2:i=zT s k3:=by omega
      subst hi2;have hup2:=hin3 (by omega);have hw2:IntKind.i64.wrap (- upM s k3 (zT s k3)) = - upM s k3 (zT s k3):=by simp[IntKind.wrap,IntKind.bits,IntKind.signed];omega
      refine AW.exit ?_;simp;refine rgn [] [[],[],[0,2,5,7,8,9,10,150],[0,2,4,5,7,8,9,10]] ?_;iterate 4 refine op3 ?_
      refine qA (rgn [] [[0,2,4,5,7,8,9,151]] ?_);refine op3 ?_;refine qA (cnd ?_ ?_)
      ·intro h151;try simp at h151
       rw[bE h151]at hP3;refine rgz [] [[],[],[0,2,4,5,7,8,9]] ?_;iterate 3 refine op3 ?_
       refine qA ?_;exact⟨k3+zT s k3, - upM s k3 (zT s k3),⟨hP3,by omega,by omega,by omega⟩,qE (by simp[hw2]),rfl,by simp[hw2],by simp[hw2]⟩
      intro h151;try simp at h151
      rw[bD (by intro h;exact h151 h.1 h.2)]at hP3;refine AW.skip ?_;exact⟨k3+zT s k3,upM s k3 (zT s k3),⟨hP3,by omega,by omega,by omega⟩,qE (by simp),rfl,by simp,by simp⟩
    intro h92;try simp at h92
    refine AW.skip ?_;exact⟨(k,0),⟨by simp only[qHG];rw[bD (by intro h;have:=h92 h.1;omega)],by show k<=300000;omega,by simp,by simp⟩,qE (by simp),rfl,by simp,by simp⟩
   ·
    rintro⟨k2,up⟩ ⟨hp3,hk2,hu1,hu2⟩;simp only at hk2 hu1 hu2;rw[hp3];refine AW.seq (rgn [] [[],[],[],[2,5,7,8,9,157]] ?_);iterate 4 refine op3 ?_
    refine qA (cnd ?_ ?_)
    ·intro h157;try simp at h157
     have hR:qAZ s (vH s) digits scale (some (k2,up))=xF:=by simp only[qAZ];rw[bD (by omega)]
     refine rgn [] [[],[],[2,3]] ?_;iterate 3 refine op3 ?_
     refine qA ?_;exact AW.ret (qI (k:=by simp[hR,xF]))
    intro h157;try simp at h157
    have hR:qAZ s (vH s) digits scale (some (k2,up))=uR (vH s) digits (scale-up):=by simp only[qAZ];rw[bE (by omega)]
    rw[hR];clear hR hp3
    have hw3:IntKind.i64.wrap (-((scale:Int)-up)) = -((scale:Int)-up):=by simp[IntKind.wrap,IntKind.bits,IntKind.signed];omega
    have hz:=zQW (G:=G) (-((scale:Int)-up)) (by omega);have hzl:(wB (-((scale:Int)-up)).toNat).length<=300000:=by simp[wB];omega
    refine AW.skip (rgn [] [[],[],[2,5,7,161],[2,5,7,8]] ?_);iterate 4 refine op3 ?_
    refine qA (AW.seq (rgn [] [[],[2,5,7,8,163]] ?_));iterate 2 refine op3 ?_
    refine qA (cnd ?_ ?_)
    ·intro h163;try simp at h163
     have hL:uR (vH s) digits ((scale:Int)-up)=yA (vH s) (digits++wB (-((scale:Int)-up)).toNat) 0:=by simp only[uR];rw[bE (by omega)]
     have hN:=zMQ (G:=G) (vH s) (digits++wB (-((scale:Int)-up)).toNat) 0 (by simp;omega) (by omega);refine rgn [.nilp,.str (wB (-((scale:Int)-up)).toNat)] [[],[],[],[2,5,164,167],[],[2,5,7]] ?_;iterate 6 refine op3 ?_ (hv:=by first|exact True.intro|(rw[hw3];exact hz)|omega;done|omega|simp)
     refine qA (rgz [] [[]] ?_);refine op3 ?_;refine qA (rgn [.nilp,.tup [(yA (vH s) (digits++wB (-((scale:Int)-up)).toNat) 0).1.enc,.int .i64 (yA (vH s) (digits++wB (-((scale:Int)-up)).toNat) 0).2]] [[],[],[],[2,172],[],[],[],[2,3]] ?_);iterate 8 refine oq1 tok hN ?_
     refine qA ?_;exact AW.ret (qI (k:=by simp[hL]))
    intro h163;try simp at h163
    obtain⟨sc,hsc2⟩:∃ sc:Nat,(sc:Int)=(scale:Int)-up:=⟨((scale:Int)-up).toNat,by omega⟩;have hL:uR (vH s) digits ((scale:Int)-up)=yA (vH s) digits sc:=by simp only[uR];rw[bD (by omega),<-hsc2];rfl
    have hN:=zMQ (G:=G) (vH s) digits sc (by omega) (by omega);rw[hsc2]at hN;refine AW.skip (rgn [.nilp,.tup [(yA (vH s) digits sc).1.enc,.int .i64 (yA (vH s) digits sc).2]] [[],[],[],[2,172],[],[],[],[2,3]] ?_);iterate 8 refine oq1 tok hN ?_
    refine qA ?_;exact AW.ret (qI (k:=by simp[hL]))
def yC (d:Dc):List UInt8:=wB (d.scale.toNat+1-d.digits.length)++d.digits
def xN (d:Dc):List UInt8:=(if d.neg=true then[45] else[])++(if d.scale=0 then yC d else(yC d).take ((yC d).length-d.scale.toNat)++46::(yC d).drop ((yC d).length-d.scale.toNat))
theorem qDR {s:List UInt8} {k:Nat} {b:UInt8} {t:List UInt8} (h:s.drop k=b::t):k<s.length/\qS s k=b.toNat:=by
 have h1:k<s.length:=by
  rcases Nat.lt_or_ge k s.length with h1|h1
  ·exact h1
  rw[dQ h1]at h;cases h
 refine⟨h1, ?_⟩;have:s[k]?=some b:=by
  have:=congrArg (fun l=>l[0]?) h;simpa using this
 simp[qS,bJ,this]
theorem zCG (n:Nat) (s:List UInt8):zA (wB n++s)=zA s:=by
 induction n with
 | zero=>rfl
 | succ n ih=>simp only[wB,eU,cT,zA,eH]at ih ⊢; simp[ih]
theorem zOP {d:Dc} (h:zJ d=true) (n:Nat):yA d.neg (wB n++d.digits) d.scale.toNat=(d,0):=by
 unfold zJ at h;simp only[bI,bY]at h;obtain⟨⟨h1,h2⟩,h3⟩:=h;unfold yA;rw[zCG];by_cases hz:d.digits=[48]
 ·rw[bE hz]at h3;simp at h3;have:zA d.digits=[]:=by rw[hz];rfl
  rw[this,h3.1];simp only[Int.toNat_zero,wN,if_true];obtain⟨ng,dg,sc⟩:=d;simp only at hz h3 ⊢;rw[hz,h3.1,h3.2]
 rw[bD hz]at h3;simp at h3;obtain⟨ng,dg,sc⟩:=d;simp only at hz h1 h2 h3 ⊢;have e1:zA dg=dg:=by
  cases dg with
  | nil=>rfl
  | cons b t =>
   have hb:b≠48:=by rintro rfl;exact h3.1 rfl
   simp[zA,eH,hb]
 have e2:wN dg sc.toNat=(dg,sc.toNat):=by
  cases hs:sc.toNat with
  | zero=>rfl
  | succ k =>
   simp only[wN];rw[bD];intro hl;have:=(qDQ (d:=dg) (by omega)).2 hl;rcases h3.2 with h|h
   ·omega
   exact h this
 rw[e1,e2];simp only;rw[bD (by intro e;rw[e]at h2;simp at h2),bD (by omega)];rw[show((sc.toNat:Nat):Int)=sc by omega]
theorem qYH (n:Nat):(wB n).all qO=true:=by
 rw[bR];intro b hb;have:=(eY.1 hb).2;subst this;decide
theorem zQO {p:UInt8->Bool} {l:List UInt8} (h:l.all p=true) (n:Nat):(l.take n).all p=true:=by
 rw[bR]at h ⊢; exact fun b hb=>h b (cB hb)
theorem zQP {p:UInt8->Bool} {l:List UInt8} (h:l.all p=true) (n:Nat):(l.drop n).all p=true:=by
 rw[bR]at h ⊢; exact fun b hb=>h b (cQ hb)
theorem qSN {d:Dc} (h:zJ d=true):∃ W R:List UInt8,xN d=(if d.neg=true then[45] else[])++(W++if R=[] then[] else 46::R)/\W.all qO=true/\R.all qO=true/\W≠[]/\(W.length=1\/qS W 0≠48)/\yA d.neg (W++R) R.length=(d,0):=by
 have hd:=h;unfold zJ at hd;simp only[bI,bY]at hd;obtain⟨⟨h1,h2⟩,h3⟩:=hd;have hpa:(yC d).all qO=true:=by unfold yC;rw[dJ,qYH,h1];rfl
 have hpl:(yC d).length=if d.scale.toNat+1<=d.digits.length then d.digits.length else d.scale.toNat+1:=by
  unfold yC;simp[wB];split <;> omega
 have hn:=zOP h (d.scale.toNat+1-d.digits.length);have hp0:qS (yC d) 0=48->yC d=[48]\/(d.digits.length<=d.scale.toNat):=by
  intro hb;by_cases hz:d.digits.length<=d.scale.toNat
  ·exact .inr hz
  refine .inl ?_;have e:yC d=d.digits:=by unfold yC;rw[show d.scale.toNat+1-d.digits.length=0 by omega];rfl
  rw[e]at hb ⊢;by_cases hz:d.digits=[48]
  ·exact hz
  rw[bD hz]at h3;simp at h3;exact absurd hb h3.1
 unfold xN;by_cases hs:d.scale=0
 ·rw[bE hs];refine⟨yC d,[],by simp,hpa,rfl,by intro e;rw[e]at hpl;simp at hpl;split at hpl <;> omega, ?_, ?_⟩
  ·by_cases hb:qS (yC d) 0=48
   ·rcases hp0 hb with e|e
    ·rw[e];exact .inl rfl
    omega
   exact .inr hb
  rw[cR,dN,show(0:Nat)=d.scale.toNat by omega];exact hn
 rw[bD hs];have hle:d.scale.toNat+1<=(yC d).length:=by rw[hpl];split <;> omega
 have hRl:((yC d).drop ((yC d).length-d.scale.toNat)).length=d.scale.toNat:=by rw[bQ];omega
 have hWl:((yC d).take ((yC d).length-d.scale.toNat)).length=(yC d).length-d.scale.toNat:=by rw[cK];omega
 have hRne:(yC d).drop ((yC d).length-d.scale.toNat)≠[]:=by intro e;rw[e]at hRl;simp at hRl;omega
 have hWne:(yC d).take ((yC d).length-d.scale.toNat)≠[]:=by intro e;rw[e]at hWl;simp at hWl;omega
 have hb0:qS ((yC d).take ((yC d).length-d.scale.toNat)) 0=qS (yC d) 0:=by
  unfold qS;rw[bJ,bW,bE (by omega),<-bJ]
 refine⟨(yC d).take ((yC d).length-d.scale.toNat),(yC d).drop ((yC d).length-d.scale.toNat),by rw[bD hRne],zQO hpa _,zQP hpa _,hWne, ?_, ?_⟩
 ·rw[hb0];by_cases hb:qS (yC d) 0=48
  ·rcases hp0 hb with e|e
   ·rw[e]at hle;simp at hle;omega
   left;rw[hWl,hpl,bD (by omega)];omega
  exact .inr hb
 rw[hRl,cE];exact hn
def kA (t:List UInt8):List UInt8:=if t.head?=some 45\/t.head?=some 43 then t.drop 1 else t
def qEY (s:List UInt8):Option Int:=match s with
 | []=>some 0
 | b::t=>if b≠101/\b≠69 then none
  else if(kA t).dropWhile qO≠[]\/((kA t).takeWhile qO).length<1\/2<((kA t).takeWhile qO).length then none
  else some (if t.head?=some 45 then-(qFM ((kA t).takeWhile qO):Int) else qFM ((kA t).takeWhile qO))
def qUU (s:List UInt8):Bool:=decide (s.head?=some 45)
def qAM (s:List UInt8):List UInt8:=if s.head?=some 45 then s.drop 1 else s
def qDO (r:List UInt8):Option (List UInt8 × List UInt8) :=
 if r.head?=some 46 then(if(r.drop 1).takeWhile qO=[] then none else some ((r.drop 1).takeWhile qO,(r.drop 1).dropWhile qO)) else some ([],r)
def zAN (neg:Bool) (W P:List UInt8):Option Int->Dc × Int
 | none=>xF
 | some up=>if W=[]\/(1<W.length/\W.head?=some 48) then xF else uR neg (W++P) (P.length-up)
def kR (s:List UInt8):Dc × Int:=match qDO ((qAM s).dropWhile qO)with
 | none=>xF
 | some (P,r)=>zAN (qUU s) ((qAM s).takeWhile qO) P (qEY r)
theorem zBZ {W F:List UInt8} (hW:W.all qO=true) (hF:∀ b,F.head?=some b->qO b=false):(W++F).takeWhile qO=W/\(W++F).dropWhile qO=F:=by
 induction W with
 | nil =>
  cases F with
  | nil=>exact⟨rfl,rfl⟩
  | cons b F=>have:=hF b rfl;simp[fJ,eH,this]
 | cons b W ih =>
  simp only[eF,bI]at hW;obtain⟨h1,h2⟩:=ih hW.2;simp[fJ,eH,hW.1,h1,h2]
theorem zDI (ng:Bool) (W R:List UInt8) (hW:W.all qO=true) (hR:R.all qO=true) (h0:W≠[]) (h1:W.length=1\/qS W 0≠48) :
  kR ((if ng=true then[45] else[])++(W++if R=[] then[] else 46::R))=yA ng (W++R) R.length:=by
 generalize hF:(if R=[] then[] else 46::R)=F;generalize hs:((if ng=true then[45] else[])++(W++F))=s;obtain⟨w0,W',rfl⟩:∃ w0 W',W=w0::W':=by cases W with
  | nil=>exact absurd rfl h0
  | cons a W=>exact⟨a,W,rfl⟩
 have hw0:qO w0=true:=by simp only[eF,bI]at hW;exact hW.1
 have hw1:w0≠45:=by rintro rfl;revert hw0;decide
 have hb:qAM s=(w0::W')++F/\qUU s=ng:=by
  rw[<-hs];cases ng with
  | true=>simp[qAM,qUU]
  | false=>simp[qAM,qUU,hw1]
 have hFh:∀ b,F.head?=some b->qO b=false:=by
  rw[<-hF];split
  ·simp
  intro b hb;simp at hb;subst hb;decide
 obtain⟨t1,t2⟩:=zBZ hW hFh;have hfr:qDO F=some (R,[]):=by
  rw[<-hF];split
  ·rename_i hR0;subst hR0;rfl
  rename_i hR0;obtain⟨t3,t4⟩:=zBZ (W:=R) (F:=[]) hR (by simp);rw[cR]at t3 t4;unfold qDO;simp only[iG,if_true,iE,gV,t3,t4];rw[bD hR0]
 unfold kR;rw[hb.1,hb.2,t1,t2,hfr];simp only[qEY,zAN];rw[bD (by
  rintro(h|⟨h,h'⟩)
  ·cases h
  rcases h1 with h1|h1
  ·omega
  simp at h';subst h';exact h1 rfl)]
 unfold uR;rw[bD (by omega)];simp
structure RS where
 left:List UInt8
 nodes:Nat
 bad:Bool
 deep:Bool
 big:Bool
 deriving DecidableEq
def uL (st:RS) (k:Nat):RS:={ st with left:=st.left.drop k }
def isBl (b:UInt8):Bool:=b == 32 || b == 9 || b == 13 || b == 10
def qCF (s:List UInt8):List UInt8:=s.dropWhile isBl
def zOL (b:UInt8):Bool:=qO b || b == 45 || b == 43 || b == 46 || b == 101 || b == 69
def tk (w:List UInt8) (st:RS):Bool × RS :=
 if w.isPrefixOf (qCF st.left) then(true,{ st with left:=(qCF st.left).drop w.length }) else(false,{ st with left:=qCF st.left })
def zRR:List UInt8->Nat
 | []=>0
 | b::t=>if b=34 then 1 else if b=92 then(match t with
  | []=>1
  | _::u=>2+zRR u) else 1+zRR t
def wAC (s:List UInt8):Nat:=if s=[] then 0 else 1+zRR (s.drop 1)
def qZK (l:List UInt8) (st:RS) (u:List UInt8 × Nat × Int):RS × List UInt8 :=
 if u.2.2=0 then({ st with left:=l.drop u.2.1 },u.1) else if u.2.2=3 then({ st with left:=l.drop (wAC l),big:=true },u.1) else({ st with left:=l.drop u.2.1,bad:=true },u.1)
def jG (st:RS):RS × List UInt8:=qZK (qCF st.left) st (qRB (qCF st.left))
def qQJ (st:RS):RS × Val :=
 ({ st with left:=st.left.dropWhile zOL,big:=st.big || decide ((kR (st.left.takeWhile zOL)).2=3),bad:=st.bad || decide ((kR (st.left.takeWhile zOL)).2=4) },.mk 4 0 (kR (st.left.takeWhile zOL)).1 [] [] [] 0)
def zNS (c:UInt8) (many:Nat) (st:RS):Bool × RS :=
 let st1:RS:={ st with big:=st.big || decide (200<many) }
 if st1.bad=true then(true,st1) else
 let a:=tk [c] st1
 if a.1=true then(true,a.2) else let b:=tk [44] a.2
  (false,{ b.2 with bad := !b.1 })
def wGS (ks:List (List UInt8)) (vs:List Val) (key:List UInt8) (v:Val):List (List UInt8) × List Val:=if key∈ks then(ks,vs.set (ks.idxOf key) v) else(ks++[key],vs++[v])
def qHW (st:RS):RS:=if st.bad=true then st else { (tk [58] st).2 with bad := !(tk [58] st).1 }
def qQW:List UInt8:=[110,117,108,108]
def qQV:List UInt8:=[116,114,117,101]
def qJR:List UInt8:=[102,97,108,115,101]
def uY (st:RS) (d:Nat):RS:=⟨qCF st.left,st.nodes+1,st.bad,st.deep || decide (12<d),st.big || decide (400<st.nodes+1)⟩
def zGB (st:RS):RS × Val :=
 if qQW.isPrefixOf st.left then(uL st 4,.mk 1 0 dc0 [] [] [] 0)
 else if qQV.isPrefixOf st.left then(uL st 4,.mk 3 0 dc0 [] [] [] 0)
 else if qJR.isPrefixOf st.left then(uL st 5,.mk 2 0 dc0 [] [] [] 0)
 else if([34]:List UInt8).isPrefixOf st.left then((jG st).1,.mk 5 0 dc0 (jG st).2 [] [] 0)
 else if st.left≠[]/\(qS st.left 0=45\/xZ (qS st.left 0)=true) then qQJ st
 else({ st with bad:=true },jN)
mutual
def qNA:Nat->RS->Nat->RS × Val
 | 0,st,_=>({ st with bad:=true },jN)
 | n+1,st,d =>
  if([91]:List UInt8).isPrefixOf (uY st d).left then
   (let a:=tk [93] (uL (uY st d) 1)
    let r:=if a.1=true then(a.2,[]) else zTE n a.2 (d+1) 1 []
    (r.1,.mk 6 0 dc0 [] [] r.2 0))
  else if([123]:List UInt8).isPrefixOf (uY st d).left then
   (let a:=tk [125] (uL (uY st d) 1)
    let r:=if a.1=true then(a.2,[],[]) else zST n a.2 (d+1) 1 [] []
    (r.1,.mk 7 0 dc0 [] r.2.1 r.2.2 0))
  else zGB (uY st d)
def zTE:Nat->RS->Nat->Nat->List Val->RS × List Val
 | 0,st,_,_,vs=>({ st with bad:=true },vs)
 | n+1,st,d,many,vs =>
  if st.bad=true then(st,vs) else
  let a:=qNA n st d
  let b:=zNS 93 many a.1
  if b.1=true then(b.2,vs++[a.2]) else zTE n b.2 d (many+1) (vs++[a.2])
def zST:Nat->RS->Nat->Nat->List (List UInt8)->List Val->RS × List (List UInt8) × List Val
 | 0,st,_,_,ks,vs=>({ st with bad:=true },ks,vs)
 | n+1,st,d,many,ks,vs =>
  if st.bad=true then(st,ks,vs) else
  let q:=jG st
  let c:=qHW q.1
  let a:=if c.bad=true then(c,ks,vs) else let v:=qNA n c d
   (v.1,wGS ks vs q.2 v.2)
  let b:=zNS 125 many a.1
  if b.1=true then(b.2,a.2) else zST n b.2 d (many+1) a.2.1 a.2.2
end
theorem qLB (s:List UInt8):(qCF s).length<=s.length:=(dF _).length_le
theorem qVR (w:List UInt8) (st:RS):(tk w st).2.left.length<=st.left.length/\((tk w st).1=true->(tk w st).2.left.length+w.length<=st.left.length):=by
 have h:=qLB st.left;unfold tk;split
 ·rename_i hp;have:=(fR.1 hp).length_le;simp only[bQ];exact⟨by omega,fun _=>by omega⟩
 exact⟨h,fun h=>by cases h⟩
@[simp] theorem wHS (w:List UInt8) (st:RS):(tk w st).2.bad=st.bad:=by unfold tk;split <;> rfl
@[simp] theorem wEK (w:List UInt8) (st:RS):(tk w st).2.nodes=st.nodes:=by unfold tk;split <;> rfl
@[simp] theorem wHK (w:List UInt8) (st:RS):(tk w st).2.deep=st.deep:=by unfold tk;split <;> rfl
@[simp] theorem wHR (w:List UInt8) (st:RS):(tk w st).2.big=st.big:=by unfold tk;split <;> rfl
theorem qWF (st:RS):(jG st).1.left.length<=st.left.length:=by
 have h:=qLB st.left;unfold jG qZK;split
 ·simp only[bQ];omega
 split <;> (simp only[bQ];omega)
theorem zRW (c:UInt8) (many:Nat) (st:RS):(zNS c many st).2.left.length<=st.left.length:=by
 unfold zNS;simp only;split
 ·exact bP _
 split
 ·exact(qVR _ _).1
 exact dB (qVR _ _).1 (qVR _ _).1
theorem zUN (st:RS):(qHW st).left.length<=st.left.length:=by
 unfold qHW;split
 ·exact bP _
 exact(qVR _ _).1
theorem zUE (st:RS) (d:Nat):(uY st d).left.length<=st.left.length:=qLB _
theorem zAO (p:UInt8->Bool) (l:List UInt8):(l.dropWhile p).length<=l.length:=(dF _).length_le
theorem qRC:∀ (f:Nat) (s:List UInt8) (k:Nat) (out:List UInt8),(zBX f s k out).2.2=0->k+1<=(zBX f s k out).2.1
 | 0,s,k,out,h=>by simp[zBX]at h
 | f+1,s,k,out,h=>by
  simp only[zBX]at h ⊢;split at h
  ·simp at h
  rename_i h1;rw[bD h1];split at h
  ·rename_i h2;rw[bE h2];split at h
   ·simp at h
   rename_i h3;rw[bD h3];exact bP _
  rename_i h2;rw[bD h2];split at h
  ·simp at h
  rename_i h3;rw[bD h3];split at h
  ·rename_i h4;rw[bE h4];cases he:wHA s with
   | none=>rw[he]at h;simp at h
   | some cn =>
    obtain⟨c,n⟩:=cn;rw[he]at h;simp only at h ⊢;have:=qRC f _ _ _ h;omega
  rename_i h4;rw[bD h4];have:=qRC f _ _ _ h;omega
theorem zOA {st:RS} (h:([34]:List UInt8).isPrefixOf (qCF st.left)=true):(jG st).1.bad=false->(jG st).1.left.length<st.left.length:=by
 have h1:=qLB st.left;obtain⟨t,ht⟩:=fR.1 h;unfold jG qZK;generalize qCF st.left=l at *;subst ht;have hu:qRB ([34]++t)=zBX (t.length+1) t 1 []:=by
  unfold qRB;simp
 rw[hu];split
 ·rename_i h0;intro _;have:=qRC _ _ _ _ h0;simp only[bQ];simp at h1 ⊢; omega
 split
 ·intro _;simp only[bQ,wAC];simp at h1 ⊢; omega
 intro hb;simp at hb
theorem zOI:(kR []).2=4:=by decide +kernel
theorem zOM {st:RS} (h:(qQJ st).1.bad=false):(qQJ st).1.left.length<st.left.length:=by
 unfold qQJ at h ⊢;simp only[fZ,dZ]at h;have hs:=gD (p:=zOL) (l:=st.left);generalize hA:st.left.takeWhile zOL=A at *;simp only;have hl:=congrArg List.length hs;rw[bU]at hl;have:A≠[]:=by rintro rfl;exact h.2 zOI
 have:=bV.2 this;omega
theorem zGW (s:List UInt8):qCF (qCF s)=qCF s:=by
 unfold qCF;induction s with
 | nil=>rfl
 | cons b s ih =>
  rw[eH];split
  ·exact ih
  rename_i h;rw[eH,bD h]
theorem qCM {w l:List UInt8} (h:w.isPrefixOf l=true):w.length<=l.length:=(fR.1 h).length_le
theorem zZK (st:RS) (ht:qCF st.left=st.left):(zGB st).1.left.length<=st.left.length/\((zGB st).1.bad=false->(zGB st).1.left.length<st.left.length):=by
 unfold zGB;split
 ·rename_i h;have:=qCM h;simp[qQW,uL]at this ⊢; omega
 split
 ·rename_i h;have:=qCM h;simp[qQV,uL]at this ⊢; omega
 split
 ·rename_i h;have:=qCM h;simp[qJR,uL]at this ⊢; omega
 split
 ·rename_i h;exact⟨qWF st,zOA (by rw[ht];exact h)⟩
 split
 ·exact⟨zAO _ _,zOM⟩
 exact⟨bP _,fun h=>by simp at h⟩
theorem lens:∀ n:Nat,(∀ st d,(qNA n st d).1.left.length<=st.left.length/\((qNA n st d).1.bad=false->(qNA n st d).1.left.length<st.left.length)) /\
  (∀ st d many vs,(zTE n st d many vs).1.left.length<=st.left.length)/\(∀ st d many ks vs,(zST n st d many ks vs).1.left.length<=st.left.length)
 | 0=>⟨fun st d=>⟨by simp[qNA],fun h=>by simp[qNA]at h⟩,fun st d many vs=>by simp[zTE],fun st d many ks vs=>by simp[zST]⟩
 | n+1=>by
  obtain⟨ih1,ih2,ih3⟩:=lens n;refine⟨fun st d => ?_,fun st d many vs => ?_,fun st d many ks vs => ?_⟩
  ·have he:=zUE st d;have ht:qCF (uY st d).left=(uY st d).left:=zGW _;simp only[qNA];split
   ·rename_i h;have h1:=qCM h;have h2:=qVR [93] (uL (uY st d) 1);simp only[uL,bQ,cA,dN]at h1 h2;split
    ·simp only[uL];exact⟨by omega,fun _=>by omega⟩
    have h3:=ih2 (tk [93] (uL (uY st d) 1)).2 (d+1) 1 [];simp only[uL]at h3 ⊢;exact⟨by omega,fun _=>by omega⟩
   split
   ·rename_i h;have h1:=qCM h;have h2:=qVR [125] (uL (uY st d) 1);simp only[uL,bQ,cA,dN]at h1 h2;split
    ·simp only[uL];exact⟨by omega,fun _=>by omega⟩
    have h3:=ih3 (tk [125] (uL (uY st d) 1)).2 (d+1) 1 [] [];simp only[uL]at h3 ⊢;exact⟨by omega,fun _=>by omega⟩
   have h1:=zZK (uY st d) ht;exact⟨by omega,fun hb=>by have:=h1.2 hb;omega⟩
  ·simp only[zTE];split
   ·exact bP _
   have h1:=(ih1 st d).1;have h2:=zRW 93 many (qNA n st d).1;split
   ·simp only;omega
   have:=ih2 (zNS 93 many (qNA n st d).1).2 d (many+1) (vs++[(qNA n st d).2]);omega
  simp only[zST];split
  ·exact bP _
  have h1:=qWF st;have h2:=zUN (jG st).1;have h3:=(ih1 (qHW (jG st).1) d).1;generalize hA:(if(qHW (jG st).1).bad=true then(qHW (jG st).1,ks,vs) else((qNA n (qHW (jG st).1) d).1,wGS ks vs (jG st).2 (qNA n (qHW (jG st).1) d).2))=A;have h4:A.1.left.length<=st.left.length:=by
   rw[<-hA];split
   ·simp only;omega
   simp only;omega
  have h5:=zRW 125 many A.1;split
  ·simp only;omega
  have:=ih3 (zNS 125 many A.1).2 d (many+1) A.2.1 A.2.2;omega
open Go Go.RowKit Go.Shelf Go.Maps Go.Sort
attribute [local go_sem] Oper.semAt_some
def qNC {α:Type} (f:Nat->α) (k:Nat):List α:=(List.range k).map f
theorem qVN {α:Type} (f:Nat->α) (k:Nat):qNC f (k+1)=qNC f k++[f k]:=by simp[qNC,List.range_succ]
theorem zBV {α:Type} (f:Nat->α) (k:Nat):(qNC f k).length=k:=by simp[qNC]
theorem qVM (zs:List (List UInt8)) {k:Nat} (hk:k<=zs.length):qNC (fun j=>zs[j]?.getD []) k=zs.take k:=by
 apply List.ext_getElem
 ·simp[qNC,hk]
 intro i h1 h2;have:i<zs.length:=by simp[qNC]at h1;omega
 simp[qNC,this]
theorem zRF (zs:List (List UInt8)):qNC (fun j=>zs[j]?.getD []) zs.length=zs:=by rw[qVM zs (Nat.le_refl _),List.take_length]
set_option maxRecDepth 100000 in
set_option maxHeartbeats 2000000 in
theorem zGQ (F:Fence) (n:Nat) (h7:F.fn 99) (hro:F.round=none) (hn:1<=n) (l Bs n₀ b off len cap:Nat) (zs:List (List UInt8)) (hreach:len * 16<=140737488351232) (hb:b<n₀) (J Jx:List (List UInt8)->World->Prop)
  (hY:∀ pre x W,J pre W->pre.length<len->YieldAt F (n-1) Tryz.prog l #[encStr x] W fun e W' =>
   (e = .returned (.bool true)/\J (pre++[x]) W'/\Below n₀ W W')\/(e = .returned (.bool false)/\Jx (pre++[x]) W'))
  (W:World) (hBs:W.cell? ⟨Bs,0,none⟩=some (.slice (some ⟨b,off,none⟩) len cap)) (hc:∀ j,j<len->W.cell? ⟨b,off+j,none⟩=some (encStr (zs[j]?.getD []))) (h0:J [] W) :
  CallsIn F n Tryz.prog 99 #[.func (.yield l) #[] #[],.pointer (some ⟨Bs,0,none⟩)] W fun e W'=>(∃ v,e = .returned v) /\
   ((∃ ys,ys=qNC (fun j=>zs[j]?.getD []) len/\J ys W')\/(∃ pre,(∃ k,k<=len/\pre=qNC (fun j=>zs[j]?.getD []) k)/\Jx pre W')):=by
 refine callsIn_of_wp Tryz.func99 rfl h7 ?_ hro;simp only[Tryz.ntmps99,List.size_toArray,List.length_cons,List.length_nil,Nat.reduceAdd,Nat.reduceSub,Array.replicate_succ,Array.replicate_zero,List.push_toArray,List.append_toArray,List.nil_append,List.cons_append];gi_wp2
 gi_loopw [7] (fun i wr=>∃ k:Nat,k<=len/\i = .int .i64 k/\J (qNC (fun j=>zs[j]?.getD []) k) wr/\Below n₀ W wr)
  (fun i _=>len-(intOf i).toNat)
 case atStart=>exact⟨0,Nat.zero_le _,rfl,h0,Below.refl _ _⟩
 case round =>
  obtain⟨k,hk,rfl,hJs,hnx⟩:=hrel;have hcx:k<len->wr.cell? ⟨b,off+k,none⟩=some (encStr (zs[k]?.getD [])):=fun h=>(hnx.cell (p:=⟨b,off+k,none⟩) hb).trans (hc k h);by_cases hlt:k<len
  ·obtain⟨fn,tmps,assign,body,hy,hR⟩:=hY _ (zs[k]?.getD []) wr hJs (by rw[zBV];exact hlt);have hcx':=hcx hlt;gi_wp2
   refine hR.mono ?_;rintro e W3 (⟨rfl,hJ3,hk3⟩|⟨rfl,hJx3⟩)
   ·gi_wp2
    go_roundw
    case rel=>exact⟨k+1,by omega,by simp,by rw[qVN];exact hJ3,hnx.trans hk3⟩
    case measure=>simp[intOf];omega
   gi_wp2
   refine bodyPost_ret (results_none rfl _ _ _) rfl ?_;exact⟨⟨_,rfl⟩,.inr ⟨_,⟨k+1,by omega,(qVN _ _).symm⟩,hJx3⟩⟩
  obtain rfl:k=len:=by omega
  gi_wp2
  go_end0
  exact⟨⟨_,rfl⟩,.inl ⟨_,rfl,hJs⟩⟩
def zGG (n₀:Nat) (W:World) (sv:Value) (zs:List (List UInt8)):Prop :=
 (zs=[]/\∃ a c,sv = .slice a 0 c)\/∃ b off cap,sv = .slice (some ⟨b,off,none⟩) zs.length cap/\b<n₀/\∀ j,j<zs.length->W.cell? ⟨b,off+j,none⟩=some (encStr (zs[j]?.getD []))
theorem zGG.below {n₀:Nat} {A B:World} (h:Below n₀ A B) {sv:Value} {zs:List (List UInt8)}:zGG n₀ A sv zs->zGG n₀ B sv zs
 | .inl e => .inl e
 | .inr ⟨b,off,cap,e,hb,hc⟩ => .inr ⟨b,off,cap,e,hb,fun j hj=>(h.cell (p:=⟨b,off+j,none⟩) hb).trans (hc j hj)⟩
set_option maxRecDepth 100000 in
set_option maxHeartbeats 1000000 in
theorem qQX (F:Fence) (n:Nat) (h7:F.fn 99) (hro:F.round=none) (l Bs:Nat) (a:Option Addr) (c:Nat) (J:List (List UInt8)->World->Prop) (W:World) (hBs:W.cell? ⟨Bs,0,none⟩=some (.slice a 0 c)) (h0:J [] W) :
  CallsIn F n Tryz.prog 99 #[.func (.yield l) #[] #[],.pointer (some ⟨Bs,0,none⟩)] W fun e W'=>(∃ v,e = .returned v)/\J [] W':=by
 refine callsIn_of_wp Tryz.func99 rfl h7 ?_ hro;simp only[Tryz.ntmps99,List.size_toArray,List.length_cons,List.length_nil,Nat.reduceAdd,Nat.reduceSub,Array.replicate_succ,Array.replicate_zero,List.push_toArray,List.append_toArray,List.nil_append,List.cons_append];gi_wp2
 gi_loopw [7] (fun i wr=>i = .int .i64 0/\J [] wr) (fun _ _=>0)
 case atStart=>exact⟨rfl,h0⟩
 case round =>
  obtain⟨rfl,hJs⟩:=hrel;gi_wp2
  go_end0
  exact⟨⟨_,rfl⟩,hJs⟩
theorem qYM (F:Fence) (n:Nat) (h7:F.fn 99) (hro:F.round=none) (hn:1<=n) (Bs n₀:Nat) (sv:Value) (zs:List (List UInt8)) (hreach:zs.length * 16<=140737488351232) (w:World) (hBs:Bs<w.heap.size) (hn₀:n₀<=w.heap.size)
  (hc:w.cell? ⟨Bs,0,none⟩=some sv) (hI:zGG n₀ w sv zs) :
  SeqStopsK F n Tryz.prog 99 #[.pointer (some ⟨Bs,0,none⟩)] (fun x:List UInt8 => #[encStr x]) (Below n₀) (fun ys=>ys=zs) (fun pre=>pre <+: zs) zs.length w:=fun l J Jx W hW _ _ hY h0=>by
 have hc':=(hW.cell (p:=⟨Bs,0,none⟩) hBs).trans hc;rcases hI.below (hW.mono hn₀)with⟨rfl,a,c,rfl⟩|⟨b,off,cap,rfl,hb,hcs⟩
 ·exact(qQX F n h7 hro l Bs a c J W hc' h0).mono fun e W' ⟨he,hj⟩=>⟨he,.inl ⟨_,rfl,hj⟩⟩
 refine(zGQ F n h7 hro hn l Bs n₀ b off zs.length cap zs hreach hb J Jx hY W hc' hcs h0).mono ?_;rintro e W' ⟨he,⟨ys,rfl,hj⟩|⟨pre,⟨k,hk,rfl⟩,hj⟩⟩
 ·exact⟨he,.inl ⟨_,zRF zs,hj⟩⟩
 exact⟨he,.inr ⟨_,by rw[qVM zs hk];exact List.take_prefix _ _,hj⟩⟩
theorem zXI:(Tryz.prog.info? 9).map (fun i=>(i.zero,i.size,i.bytes))=some (some (.string .empty),1,16):=by kernel_rfl
set_option maxRecDepth 100000 in
set_option maxHeartbeats 2000000 in
theorem zAX (F:Fence) (n:Nat) (h3:F.fn 137) (h5:F.fn 99) (hro:F.round=none) (hn:3<=n) (Bs:Nat) (sv:Value) (zs:List (List UInt8)) (hlen:zs.length<=maxLen) (hbytes:zs.length * 16<=140737488351232) (w:World)
  (hBs:Bs<w.heap.size) (hc0:w.cell? ⟨Bs,0,none⟩=some sv) (hI:zGG w.heap.size w sv zs) :
  CallsIn F n Tryz.prog 137 #[.slice none 0 0,.func (.func 99) #[] #[.pointer (some ⟨Bs,0,none⟩)]] w fun e W'=>∃ v,e = .returned v/\W'.ownsRow w.heap.size 9 1 v zs.length (zs.map encStr)/\Below w.heap.size w W':=by
 have h1:1<=n:=by omega
 obtain⟨i0,hi,hz0,hz1,hz2⟩:=info_parts zXI;refine callsIn_of_wp_marks Tryz.func137 rfl h3 ?_ hro;simp only[Tryz.ntmps137,List.size_toArray,List.length_cons,List.length_nil,Nat.reduceAdd,Nat.reduceSub,Array.replicate_succ,Array.replicate_zero,List.push_toArray,List.append_toArray,List.nil_append,List.cons_append];gi_wp2
 have bO:=Boxed.new w 27 (.slice none 0 0);have hB0:Below w.heap.size w (w.alloc (.cells #[.slice none 0 0] 27)):=(Below.refl _ w).alloc (Nat.le_refl _) _;refine wpIn_rangeFunc_ownG hro h1 (gf:=99) (lb := #[.pointer (some ⟨Bs,0,none⟩)]) rfl h5 (enters_of Tryz.func99 (by kernel_rfl) rfl)
  (qYM F (n-1) h5 hro (by omega) Bs w.heap.size sv zs hbytes _ (by simp;omega) (by simp) ((hB0.cell (p:=⟨Bs,0,none⟩) hBs).trans hc0) (hI.below hB0)) belowK_t (belowK_b (by simp)) (Below.refl _ _) (fun _=>rfl)
  (fun pre W=>(∃ v,Boxed W w.heap.size 27 v/\W.ownsRow w.heap.size 9 1 v pre.length (pre.map encStr)/\True)/\Below w.heap.size w W)
  (fun _ _ _=>False)
  (OwnFrom.and (Own.from (holdsRow_own w.heap.size w.heap.size 27 9 1 (fun pre:List (List UInt8)=>pre.length) (fun pre=>pre.map encStr) (fun _ _=>True)) _) (ownFrom_below (Nat.le_refl _) (by simp)))
  (fun _ _ _ _ _ hs _ _=>hs)
  ⟨⟨_,bO,World.ownsRow_nil _ _ _ _,trivial⟩,hB0⟩
  (fun x=>{ tmps := #[.slice none 0 0,.func (.func 99) #[] #[.pointer (some ⟨Bs,0,none⟩)],.pointer (some ⟨w.heap.size,0,none⟩),undef,.slice none 0 0,encStr x,.func (.func 99) #[] #[.pointer (some ⟨Bs,0,none⟩)],encStr x,undef,undef,undef,undef,undef],defers:=[] }) ?assign ?body ?done ?stop
 case assign =>
  intro l x W K hK;gi_wp2
  exact hK
 case body =>
  rintro l pre x W ⟨⟨v,hv,hrow,_⟩,hB⟩ hlt;have hc:=hv.cell;gi_wp2_with (gi_at_builtin;refine wpListIn_append_own _ rfl _ _ 27 rfl w.heap.size 9 i0 (.string .empty) 1 16 Tryz.underlying27 hi hz0 hz1 hz2 rfl (by decide) _ _ _ rfl (hrow.alloc _) ⟨W.heap.size,0,none⟩ 1 1 [encStr x] rfl rfl (cell_one_new _ _ _) (by simp[Value.oneCell']) (by omega) (by omega) (by have:=hB.size;simp;omega) ?_;intro v' w1 hown' hgrow _;obtain⟨g',cap',rfl⟩:=ownsRow_succ hown';obtain⟨hv1,hv2,hr2,hk2,hb2⟩:=hv.appended (by decide) hrow hB.size (Nat.le_refl _) hown' hgrow;have hc1:=hv1.cell;have hf1:=hv1.frozen)
  exact⟨hk2.from _,hb2,⟨_,hv2,by simpa using hr2,trivial⟩,hB.trans hb2⟩
 case done =>
  rintro D ys W hD rfl ⟨⟨v,hv,hrow,_⟩,hB⟩ hK;have hc:=hv.cell;gi_wp2
  refine⟨by simp,.inl ⟨_,_,rfl,run_takeDeferred hK, ?_⟩⟩;exact⟨_,results_tmp rfl _ _ _,v,rfl,ownsRow_putObj hrow _ hK rfl,hB.trans (belowK_b (w:=w) (Nat.le_refl _) W D _ _ (by simp at hD;omega) hK rfl rfl)⟩
 case stop =>
  rintro D c pre W _ _ h _;exact h.elim
set_option maxRecDepth 100000 in
set_option maxHeartbeats 2000000 in
theorem zJC (F:Fence) (n:Nat) (h2:F.fn 97) (h3:F.fn 137) (h5:F.fn 99) (hro:F.round=none) (hn:4<=n) (Bs:Nat) (sv:Value) (zs:List (List UInt8)) (hlen:zs.length<=maxLen) (hbytes:zs.length * 16<=140737488351232) (w:World)
  (hBs:Bs<w.heap.size) (hc0:w.cell? ⟨Bs,0,none⟩=some sv) (hI:zGG w.heap.size w sv zs) :
  CallsIn F n Tryz.prog 97 #[.func (.func 99) #[] #[.pointer (some ⟨Bs,0,none⟩)]] w fun e W'=>∃ v,e = .returned v/\W'.ownsRow w.heap.size 9 1 v zs.length (zs.map encStr)/\Below w.heap.size w W':=by
 have h1:1<=n:=by omega
 refine callsIn_of_wp Tryz.func97 rfl h2 ?_ hro;simp only[Tryz.ntmps97,List.size_toArray,List.length_cons,List.length_nil,Nat.reduceAdd,Nat.reduceSub,Array.replicate_succ,Array.replicate_zero,List.push_toArray,List.append_toArray,List.nil_append,List.cons_append];gi_wp2_with (gi_at_call 137;refine(zAX F (n-1) h3 h5 hro (by omega) Bs sv zs hlen hbytes _ hBs hc0 hI).mono ?_;rintro e W ⟨v,rfl,hrow,hb⟩)
 go_ret
 exact⟨v,rfl,hrow,hb⟩
end Go.Proofs.YtgcbapchinideaaGreatDoor
namespace Go.Proofs
open Go.Shelf
def mI:Go.Shelf.Ren:=⟨fun|197=>195|260=>222|n=>n,fun|9=>9|21=>21|3=>3|4=>4|5=>5|105=>222|119=>254|0=>0|46=>148|139=>257|138=>256|n=>n,fun|3=>1|4=>2|n=>n⟩
theorem nH:Go.Proofs.Lays.n197 Tryz.prog mI:={
 mixed:=by kernel_rfl
 f197:=Tryz.func195.trans (congrArg some (by kernel_rfl))
 f260:=Tryz.func222.trans (congrArg some (by kernel_rfl))
 t0:=Tryz.underlying0
 a0:=Tryz.isAgg0
 z0:=Tryz.sizeOf0
 v0:=Tryz.zeroValue0
 t3:=Tryz.underlying3
 a3:=Tryz.isAgg3
 z3:=Tryz.sizeOf3
 v3:=Tryz.zeroValue3
 t4:=Tryz.underlying4
 a4:=Tryz.isAgg4
 z4:=Tryz.sizeOf4
 v4:=Tryz.zeroValue4
 t5:=Tryz.underlying5
 a5:=Tryz.isAgg5
 z5:=Tryz.sizeOf5
 v5:=Tryz.zeroValue5
 t9:=Tryz.underlying9
 a9:=Tryz.isAgg9
 z9:=Tryz.sizeOf9
 v9:=Tryz.zeroValue9
 t21:=Tryz.underlying21
 a21:=Tryz.isAgg21
 z21:=Tryz.sizeOf21
 v21:=Tryz.zeroValue21
 t46:=Tryz.underlying148
 a46:=Tryz.isAgg148
 z46:=Tryz.sizeOf148
 v46:=Tryz.zeroValue148
 t105:=Tryz.underlying222
 a105:=Tryz.isAgg222
 z105:=Tryz.sizeOf222
 v105:=Tryz.zeroValue222
 t119:=Tryz.underlying254
 a119:=Tryz.isAgg254
 z119:=Tryz.sizeOf254
 t138:=Tryz.underlying256
 a138:=Tryz.isAgg256
 z138:=Tryz.sizeOf256
 v138:=Tryz.zeroValue256
 t139:=Tryz.underlying257
 a139:=Tryz.isAgg257
 z139:=Tryz.sizeOf257
 v139:=Tryz.zeroValue257
 g3:=by kernel_rfl
 g4:=by kernel_rfl }
def nP:Go.Shelf.Ren:=⟨fun|106=>123|213=>165|265=>204|n=>n,fun|9=>9|3=>3|n=>n,fun|n=>n⟩
theorem oN:Go.Proofs.Lays.n106 Tryz.prog nP:={
 mixed:=by kernel_rfl
 f106:=Tryz.func123.trans (congrArg some (by kernel_rfl))
 f213:=Tryz.func165.trans (congrArg some (by kernel_rfl))
 f265:=Tryz.func204.trans (congrArg some (by kernel_rfl))
 t3:=Tryz.underlying3
 a3:=Tryz.isAgg3
 z3:=Tryz.sizeOf3
 v3:=Tryz.zeroValue3
 t9:=Tryz.underlying9
 a9:=Tryz.isAgg9
 z9:=Tryz.sizeOf9
 v9:=Tryz.zeroValue9 }
def mL:Go.Shelf.Ren:=⟨fun|105=>108|212=>147|99=>72|165=>148|166=>149|170=>150|169=>151|263=>191|264=>192|206=>103|240=>193|241=>194|276=>220|277=>221|n=>n,fun|9=>9|3=>3|4=>4|20=>20|0=>0|46=>148|109=>159|5=>5|72=>163|76=>166|51=>202|146=>217|53=>24|148=>219|70=>161|37=>81|75=>165|127=>221|164=>241|80=>169|n=>n,fun|n=>n⟩
theorem oO:Go.Proofs.Lays.n105 Tryz.prog mL:={
 mixed:=by kernel_rfl
 f99:=Tryz.func72.trans (congrArg some (by kernel_rfl))
 f105:=Tryz.func108.trans (congrArg some (by kernel_rfl))
 f165:=Tryz.func148.trans (congrArg some (by kernel_rfl))
 f166:=Tryz.func149.trans (congrArg some (by kernel_rfl))
 f169:=Tryz.func151.trans (congrArg some (by kernel_rfl))
 f170:=Tryz.func150.trans (congrArg some (by kernel_rfl))
 f206:=Tryz.func103.trans (congrArg some (by kernel_rfl))
 f212:=Tryz.func147.trans (congrArg some (by kernel_rfl))
 f240:=Tryz.func193.trans (congrArg some (by kernel_rfl))
 f241:=Tryz.func194.trans (congrArg some (by kernel_rfl))
 f263:=Tryz.func191.trans (congrArg some (by kernel_rfl))
 f264:=Tryz.func192.trans (congrArg some (by kernel_rfl))
 f276:=Tryz.func220.trans (congrArg some (by kernel_rfl))
 f277:=Tryz.func221.trans (congrArg some (by kernel_rfl))
 t0:=Tryz.underlying0
 a0:=Tryz.isAgg0
 z0:=Tryz.sizeOf0
 v0:=Tryz.zeroValue0
 t3:=Tryz.underlying3
 a3:=Tryz.isAgg3
 z3:=Tryz.sizeOf3
 v3:=Tryz.zeroValue3
 t4:=Tryz.underlying4
 a4:=Tryz.isAgg4
 z4:=Tryz.sizeOf4
 v4:=Tryz.zeroValue4
 t5:=Tryz.underlying5
 a5:=Tryz.isAgg5
 z5:=Tryz.sizeOf5
 v5:=Tryz.zeroValue5
 t9:=Tryz.underlying9
 a9:=Tryz.isAgg9
 z9:=Tryz.sizeOf9
 v9:=Tryz.zeroValue9
 t20:=Tryz.underlying20
 a20:=Tryz.isAgg20
 z20:=Tryz.sizeOf20
 v20:=Tryz.zeroValue20
 t37:=Tryz.underlying81
 a37:=Tryz.isAgg81
 z37:=Tryz.sizeOf81
 v37:=Tryz.zeroValue81
 t46:=Tryz.underlying148
 a46:=Tryz.isAgg148
 z46:=Tryz.sizeOf148
 v46:=Tryz.zeroValue148
 t51:=Tryz.underlying202
 a51:=Tryz.isAgg202
 z51:=Tryz.sizeOf202
 v51:=Tryz.zeroValue202
 t53:=Tryz.underlying24
 a53:=Tryz.isAgg24
 z53:=Tryz.sizeOf24
 v53:=Tryz.zeroValue24
 t70:=Tryz.underlying161
 a70:=Tryz.isAgg161
 z70:=Tryz.sizeOf161
 v70:=Tryz.zeroValue161
 t72:=Tryz.underlying163
 a72:=Tryz.isAgg163
 z72:=Tryz.sizeOf163
 v72:=Tryz.zeroValue163
 t75:=Tryz.underlying165
 a75:=Tryz.isAgg165
 z75:=Tryz.sizeOf165
 v75:=Tryz.zeroValue165
 t76:=Tryz.underlying166
 a76:=Tryz.isAgg166
 z76:=Tryz.sizeOf166
 v76:=Tryz.zeroValue166
 t109:=Tryz.underlying159
 a109:=Tryz.isAgg159
 z109:=Tryz.sizeOf159
 v109:=Tryz.zeroValue159
 t127:=Tryz.underlying221
 a127:=Tryz.isAgg221
 z127:=Tryz.sizeOf221
 v127:=Tryz.zeroValue221
 t146:=Tryz.underlying217
 a146:=Tryz.isAgg217
 z146:=Tryz.sizeOf217
 v146:=Tryz.zeroValue217
 t148:=Tryz.underlying219
 a148:=Tryz.isAgg219
 z148:=Tryz.sizeOf219
 v148:=Tryz.zeroValue219
 t164:=Tryz.underlying241
 a164:=Tryz.isAgg241
 z164:=Tryz.sizeOf241
 v164:=Tryz.zeroValue241 }
def nO:Go.Shelf.Ren:=⟨fun|190=>98|125=>139|258=>138|128=>186|129=>187|302=>177|303=>178|304=>179|305=>180|306=>181|307=>182|308=>183|309=>184|310=>185|333=>211|329=>212|330=>213|334=>214|335=>215|336=>205|344=>234|n=>n,fun|31=>27|9=>9|3=>3|46=>148|0=>0|51=>202|53=>24|4=>4|183=>196|182=>195|131=>121|5=>5|218=>232|222=>236|228=>250|229=>107|n=>n,fun|n=>n⟩
theorem nI:Go.Proofs.Lays.n190 Tryz.prog nO:={
 mixed:=by kernel_rfl
 f125:=Tryz.func139.trans (congrArg some (by kernel_rfl))
 f128:=Tryz.func186.trans (congrArg some (by kernel_rfl))
 f129:=Tryz.func187.trans (congrArg some (by kernel_rfl))
 f190:=Tryz.func98.trans (congrArg some (by kernel_rfl))
 f258:=Tryz.func138.trans (congrArg some (by kernel_rfl))
 f302:=Tryz.func177.trans (congrArg some (by kernel_rfl))
 f303:=Tryz.func178.trans (congrArg some (by kernel_rfl))
 f304:=Tryz.func179.trans (congrArg some (by kernel_rfl))
 f305:=Tryz.func180.trans (congrArg some (by kernel_rfl))
 f306:=Tryz.func181.trans (congrArg some (by kernel_rfl))
 f307:=Tryz.func182.trans (congrArg some (by kernel_rfl))
 f308:=Tryz.func183.trans (congrArg some (by kernel_rfl))
 f309:=Tryz.func184.trans (congrArg some (by kernel_rfl))
 f310:=Tryz.func185.trans (congrArg some (by kernel_rfl))
 f329:=Tryz.func212.trans (congrArg some (by kernel_rfl))
 f330:=Tryz.func213.trans (congrArg some (by kernel_rfl))
 f333:=Tryz.func211.trans (congrArg some (by kernel_rfl))
 f334:=Tryz.func214.trans (congrArg some (by kernel_rfl))
 f335:=Tryz.func215.trans (congrArg some (by kernel_rfl))
 f336:=Tryz.func205.trans (congrArg some (by kernel_rfl))
 f344:=Tryz.func234.trans (congrArg some (by kernel_rfl))
 t0:=Tryz.underlying0
 a0:=Tryz.isAgg0
 z0:=Tryz.sizeOf0
 v0:=Tryz.zeroValue0
 t3:=Tryz.underlying3
 a3:=Tryz.isAgg3
 z3:=Tryz.sizeOf3
 v3:=Tryz.zeroValue3
 t4:=Tryz.underlying4
 a4:=Tryz.isAgg4
 z4:=Tryz.sizeOf4
 v4:=Tryz.zeroValue4
 t5:=Tryz.underlying5
 a5:=Tryz.isAgg5
 z5:=Tryz.sizeOf5
 v5:=Tryz.zeroValue5
 t9:=Tryz.underlying9
 a9:=Tryz.isAgg9
 z9:=Tryz.sizeOf9
 v9:=Tryz.zeroValue9
 t31:=Tryz.underlying27
 a31:=Tryz.isAgg27
 z31:=Tryz.sizeOf27
 v31:=Tryz.zeroValue27
 t46:=Tryz.underlying148
 a46:=Tryz.isAgg148
 z46:=Tryz.sizeOf148
 v46:=Tryz.zeroValue148
 t51:=Tryz.underlying202
 a51:=Tryz.isAgg202
 z51:=Tryz.sizeOf202
 v51:=Tryz.zeroValue202
 t53:=Tryz.underlying24
 a53:=Tryz.isAgg24
 z53:=Tryz.sizeOf24
 v53:=Tryz.zeroValue24
 t131:=Tryz.underlying121
 a131:=Tryz.isAgg121
 z131:=Tryz.sizeOf121
 v131:=Tryz.zeroValue121
 t182:=Tryz.underlying195
 a182:=Tryz.isAgg195
 z182:=Tryz.sizeOf195
 v182:=Tryz.zeroValue195
 t183:=Tryz.underlying196
 a183:=Tryz.isAgg196
 z183:=Tryz.sizeOf196
 v183:=Tryz.zeroValue196
 t218:=Tryz.underlying232
 a218:=Tryz.isAgg232
 z218:=Tryz.sizeOf232
 v218:=Tryz.zeroValue232
 t222:=Tryz.underlying236
 a222:=Tryz.isAgg236
 z222:=Tryz.sizeOf236
 v222:=Tryz.zeroValue236
 t228:=Tryz.underlying250
 a228:=Tryz.isAgg250
 z228:=Tryz.sizeOf250
 v228:=Tryz.zeroValue250
 t229:=Tryz.underlying107
 a229:=Tryz.isAgg107
 z229:=Tryz.sizeOf107
 v229:=Tryz.zeroValue107 }
def mJ:Go.Shelf.Ren:=⟨fun|169=>151|n=>n,fun|70=>161|9=>9|0=>0|72=>163|37=>81|127=>221|3=>3|5=>5|n=>n,fun|n=>n⟩
theorem mA:Go.Proofs.Lays.n169 Tryz.prog mJ:={
 mixed:=by kernel_rfl
 f169:=Tryz.func151.trans (congrArg some (by kernel_rfl))
 t0:=Tryz.underlying0
 a0:=Tryz.isAgg0
 z0:=Tryz.sizeOf0
 v0:=Tryz.zeroValue0
 t3:=Tryz.underlying3
 a3:=Tryz.isAgg3
 z3:=Tryz.sizeOf3
 v3:=Tryz.zeroValue3
 t9:=Tryz.underlying9
 a9:=Tryz.isAgg9
 z9:=Tryz.sizeOf9
 v9:=Tryz.zeroValue9
 t37:=Tryz.underlying81
 a37:=Tryz.isAgg81
 z37:=Tryz.sizeOf81
 v37:=Tryz.zeroValue81
 t70:=Tryz.underlying161
 a70:=Tryz.isAgg161
 z70:=Tryz.sizeOf161
 v70:=Tryz.zeroValue161
 t72:=Tryz.underlying163
 a72:=Tryz.isAgg163
 z72:=Tryz.sizeOf163
 v72:=Tryz.zeroValue163
 t127:=Tryz.underlying221
 a127:=Tryz.isAgg221
 z127:=Tryz.sizeOf221
 v127:=Tryz.zeroValue221 }
def mK:Go.Shelf.Ren:=⟨fun|156=>135|165=>148|166=>149|169=>151|240=>193|241=>194|276=>220|277=>221|n=>n,fun|31=>27|9=>9|3=>3|4=>4|0=>0|20=>20|72=>163|76=>166|70=>161|37=>81|75=>165|127=>221|164=>241|5=>5|80=>169|n=>n,fun|n=>n⟩
theorem nJ:Go.Proofs.Lays.n156 Tryz.prog mK:={
 mixed:=by kernel_rfl
 f156:=Tryz.func135.trans (congrArg some (by kernel_rfl))
 f165:=Tryz.func148.trans (congrArg some (by kernel_rfl))
 f166:=Tryz.func149.trans (congrArg some (by kernel_rfl))
 f169:=Tryz.func151.trans (congrArg some (by kernel_rfl))
 f240:=Tryz.func193.trans (congrArg some (by kernel_rfl))
 f241:=Tryz.func194.trans (congrArg some (by kernel_rfl))
 f276:=Tryz.func220.trans (congrArg some (by kernel_rfl))
 f277:=Tryz.func221.trans (congrArg some (by kernel_rfl))
 t0:=Tryz.underlying0
 a0:=Tryz.isAgg0
 z0:=Tryz.sizeOf0
 v0:=Tryz.zeroValue0
 t3:=Tryz.underlying3
 a3:=Tryz.isAgg3
 z3:=Tryz.sizeOf3
 v3:=Tryz.zeroValue3
 t4:=Tryz.underlying4
 a4:=Tryz.isAgg4
 z4:=Tryz.sizeOf4
 v4:=Tryz.zeroValue4
 t9:=Tryz.underlying9
 a9:=Tryz.isAgg9
 z9:=Tryz.sizeOf9
 v9:=Tryz.zeroValue9
 t20:=Tryz.underlying20
 a20:=Tryz.isAgg20
 z20:=Tryz.sizeOf20
 v20:=Tryz.zeroValue20
 t31:=Tryz.underlying27
 a31:=Tryz.isAgg27
 z31:=Tryz.sizeOf27
 v31:=Tryz.zeroValue27
 t37:=Tryz.underlying81
 a37:=Tryz.isAgg81
 z37:=Tryz.sizeOf81
 v37:=Tryz.zeroValue81
 t70:=Tryz.underlying161
 a70:=Tryz.isAgg161
 z70:=Tryz.sizeOf161
 v70:=Tryz.zeroValue161
 t72:=Tryz.underlying163
 a72:=Tryz.isAgg163
 z72:=Tryz.sizeOf163
 v72:=Tryz.zeroValue163
 t75:=Tryz.underlying165
 a75:=Tryz.isAgg165
 z75:=Tryz.sizeOf165
 v75:=Tryz.zeroValue165
 t76:=Tryz.underlying166
 a76:=Tryz.isAgg166
 z76:=Tryz.sizeOf166
 v76:=Tryz.zeroValue166
 t127:=Tryz.underlying221
 a127:=Tryz.isAgg221
 z127:=Tryz.sizeOf221
 v127:=Tryz.zeroValue221
 t164:=Tryz.underlying241
 a164:=Tryz.isAgg241
 z164:=Tryz.sizeOf241
 v164:=Tryz.zeroValue241 }
end Go.Proofs
namespace Go.Proofs.YtgcbapchinideaaGreatDoor
open Sy Go
variable {G:qT}
theorem zGC {M:qY} {vs:Array Value} {s t:List UInt8} (hsz:vs.size=2) (h:∀ (i:Nat) u d,vs[i]?=some u->[PD.str s,PD.str t][i]?=some d->Rd M u d):∃ a b:ByteArray,vs = #[.string a,.string b]/\a.data.toList=s/\b.data.toList=t:=by
 obtain⟨l⟩:=vs;match l,hsz with
 | [u,v],_ =>
  have h1:=h 0 u (.str s) rfl rfl;have h2:=h 1 v (.str t) rfl rfl;cases h1 with
  | @str a _ ha _ =>
  cases h2 with
  | @str b _ hb _=>exact⟨a,b,rfl,ha,hb⟩
theorem zJQ {M:qY} {vs:Array Value} {s:List UInt8} {n:Int} (hsz:vs.size=2) (h:∀ (i:Nat) u d,vs[i]?=some u->[PD.str s,PD.int .i64 n][i]?=some d->Rd M u d):∃ a:ByteArray,vs = #[.string a,.int .i64 n]/\a.data.toList=s/\n<=9223372036854775807:=by
 obtain⟨l⟩:=vs;match l,hsz with
 | [u,v],_ =>
  have h1:=h 0 u (.str s) rfl rfl;have h2:=h 1 v (.int .i64 n) rfl rfl;cases h1 with
  | @str a _ ha _ =>
  cases h2 with
  | int h3 h4=>exact⟨a,rfl,ha,by rw[jI]at h4;exact h4⟩
theorem zJV (a b:List UInt8):AFn Tryz.prog G 123 [.str a,.str b] (.int .i64 (Lib.compareBytes a b)):=by
 refine lY (kO Tryz.func123 (by kernel_rfl) rfl) fun M w vs hg hmem hsz hrd => ?_;obtain⟨x,y,rfl,rfl,rfl⟩:=zGC hsz hrd;refine(Any.strings_Compare oN x y w).mono ?_;rintro e w' ⟨rfl,rfl⟩;have hb : -1<=Lib.compareBytes x.data.toList y.data.toList/\Lib.compareBytes x.data.toList y.data.toList<=1:=by
  generalize x.data.toList=l;generalize y.data.toList=m;induction l generalizing m with
  | nil=>cases m <;> simp[Lib.compareBytes]
  | cons a l ih =>
   cases m with
   | nil=>simp[Lib.compareBytes]
   | cons b m =>
    simp only[Lib.compareBytes];split
    ·omega
    split
    ·omega
    exact ih m
 exact⟨_,rfl,.int (by rw[xC];simp only[kS];omega) (by rw[jI];simp only[kT];omega),RowKit.Below.refl _ _⟩
theorem qVA:Builder.Extra Tryz.prog mL where
 sizeBuilder:=by kernel_rfl
 liesBuilder:=by kernel_rfl
 t5:=Tryz.underlying5
 a5:=Tryz.isAgg5
 z5:=Tryz.sizeOf5
 v5:=Tryz.zeroValue5
 infoByte:=by kernel_rfl
 cellsByte:=by kernel_rfl
 sizeByte:=by kernel_rfl
 neB5:=by decide
theorem qOO (s:List UInt8) (n:Nat) (h:s.length * n<=140737488355328):AFn Tryz.prog G 108 [.str s,.int .i64 n] (.str (Lib.repeatL s n)):=by
 refine lY (kO Tryz.func108 (by kernel_rfl) rfl) fun M w vs hg hmem hsz hrd => ?_;obtain⟨x,rfl,rfl,hn⟩:=zJQ hsz hrd;refine(Any.strings_Repeat oO qVA x n w (by omega) (by rw[vB rfl];exact h)).mono ?_;rintro e w' ⟨rfl,hb⟩;refine⟨_,rfl,.str (by simp) ?_,hb⟩;rw[Lib.repeatL_length,fK];simp only[maxLen];omega
open Sy Go Go.RowKit Go.Shelf Go.Maps Go.Sort
attribute [local go_sem] Oper.semAt_some
def zW (ks:List (List UInt8)):List (List UInt8):=ks.mergeSort fun x y=>decide (x<=y)
theorem qNK (ks:List (List UInt8)):(zW ks).length=ks.length:=List.length_mergeSort _
set_option maxRecDepth 100000 in
set_option maxHeartbeats 2000000 in
theorem qYY (Bs:Nat) (sv:Value) (zs:List (List UInt8)) (hlen:zs.length<=maxLen) (hbytes:zs.length * 16<=140737488351232) (w:World) (hBs:Bs<w.heap.size) (hc0:w.cell? ⟨Bs,0,none⟩=some sv) (hI:zGG w.heap.size w sv zs) :
  Calls Tryz.prog 67 #[.func (.func 99) #[] #[.pointer (some ⟨Bs,0,none⟩)]] w fun e W'=>∃ v,e = .returned v/\W'.ownsRow w.heap.size 9 1 v zs.length ((zW zs).map encStr)/\Below w.heap.size w W':=by
 refine(callsIn_wide (n:=6)).1 ?_;have h1:1<=6:=by omega
 refine callsIn_of_wp Tryz.func67 rfl trivial ?_ rfl;simp only[Tryz.ntmps67,fX,cA,dN,Nat.reduceAdd,Nat.reduceSub,Array.replicate_succ,Array.replicate_zero,List.push_toArray,List.append_toArray,dH,cT];gi_wp2_with (refine⟨trivial, ?_⟩;gi_at_call 97;refine(zJC Fence.wide 5 trivial trivial trivial rfl (by omega) Bs sv zs hlen hbytes _ hBs hc0 hI).mono ?_;rintro e W ⟨v,rfl,hrow,hb⟩)
 rcases hrow.2 with⟨rfl,hz⟩|⟨gb,cap,cur,rfl,hbase,hgb,r1,r2,r3,r4⟩
 ·have hss:zs=[]:=bS hz;subst hss;gi_wp2_with (refine⟨trivial, ?_⟩;gi_at_call 98;refine(callsIn_wide.2 (Any.slices_Sort_string_none nI none 0 W)).mono ?_;rintro e w' ⟨rfl,rfl⟩)
  go_ret
  exact⟨.slice none 0 0,rfl,by simpa[zW]using hrow,hb⟩
 have hH:Holds encStr W gb 0 zs.toArray:=holds_of_block hgb (by simpa using r4);have hgl:gb<W.heap.size:=(cC.1 hgb).1;have cS:=Any.slices_Sort_string nI gb 0 cap zs W hH hgl (by omega);gi_wp2_with (refine⟨trivial, ?_⟩;gi_at_call 98;refine(callsIn_wide.2 cS).mono ?_;rintro e w' ⟨rfl,nn,os,rfl⟩)
 go_ret
 exact⟨_,rfl,ownsRow_sorted (by simp) hbase hgb r1 r2 r3,hb.grown (grownBy_sorted _) hb.size (fun j hj=>by cases hj;exact hbase)⟩
theorem zPM {ba:ByteArray} {s:List UInt8} (h:ba.data.toList=s):Value.string ba=encStr s:=by
 subst h;rfl
theorem zXH {M:qY} {w:World} {u:Value} {ks:List (List UInt8)} (hmem:∀ b o v,M b o=some v->w.cell? ⟨b,o,none⟩=some v) (h:Rd M u (.sl 1 (ks.map PD.str))):zGG w.heap.size w u ks/\ks.length<=maxLen/\∀ s∈ks,s.length<=maxLen:=by
 cases h with
 | @sl a n c _ _ b o hn hnc hcm ha h5 h6 h7 =>
 rw[cV]at hn;by_cases hk:ks=[]
 ·subst hk;simp at hn;subst hn;exact⟨.inl ⟨rfl,a,c,rfl⟩,by simp,by simp⟩
 have hpos:0<ks.length:=bV.2 hk;obtain rfl:=ha (by omega);subst hn;have hcell:∀ j,j<ks.length->w.cell? ⟨b,o+j,none⟩=some (encStr (ks[j]?.getD []))/\(ks[j]?.getD []).length<=maxLen:=fun j hj=>by
  have hg:(ks.map PD.str)[j]?=some (.str ks[j]):=by simp[hj]
  obtain⟨u,hu,_⟩:=h6 j _ 0 hg (by omega);have h8:=h7 j _ 0 _ u hg rfl hu;cases h8 with
  | @str ba _ hba hl =>
  have:=hmem _ _ _ hu;simp only[eB,cH]at this;refine⟨by rw[this,zPM hba];simp[hj],by simpa[hj]using hl⟩
 refine⟨.inr ⟨b,o,c,rfl,kE (hcell 0 hpos).1,fun j hj=>(hcell j hj).1⟩,by omega,fun s hs => ?_⟩;obtain⟨j,hj,rfl⟩:=cP.1 hs;have:=(hcell j hj).2;simpa[hj]using this
theorem qVY (i:Nat) (ks:List (List UInt8)) (hb:ks.length * 16<=140737488351232):AX Tryz.prog G 67 [.func (.func 99) [] [.ptr i 0]] [(i,.vars 27 [.p (.sl 1 (ks.map PD.str))])]
  (.p (.sl 1 ((zW ks).map PD.str))) [] []:=by
 refine⟨kO Tryz.func67 (by kernel_rfl) rfl,fun M μ w vs hg rel => ?_⟩;have hsz:vs.size=1:=rel.slots.1;obtain⟨l⟩:=vs;match l,hsz with
 | [u],_ =>
 have hu:=rel.slots.2 0 u _ rfl rfl;cases hu with
 | @func _ fa ca _ _ h1 h2 h3 h4 =>
 obtain rfl:fa = #[]:=gG h1;obtain⟨c⟩:=ca;match c,h2,h4 with
 | [q],_,h4 =>
 have hq:=h4 0 q _ rfl rfl;cases hq with
 | @ptr _ _ b hblk =>
 have hbx:=rel.box i (.vars 27 [.p (.sl 1 (ks.map PD.str))]) (cG.2 rfl);cases hbx with
 | @vars _ _ b' arr g0 g1 g2 g3 g4 =>
 rw[hblk]at g0;cases g0;obtain⟨al⟩:=arr;match al,g2,g1,g4 with
 | [sv],_,g1,g4 =>
 have hsv:=(g4 0 sv _ rfl rfl).p_inv;obtain⟨hS,hlen,hsl⟩:=zXH rel.mem hsv;have hbl:b<w.heap.size:=(cC.1 g1).1;refine(qYY b sv ks hlen hb w hbl (by simp[World.cell?,g1]) hS).mono ?_;rintro e w' ⟨v,rfl,hrow,hbel⟩;have hkeep:∀ b o v,M b o=some v->w'.cell? ⟨b,o,none⟩=some v:=fun b o v hv=>by
  have h:=rel.mem b o v hv;exact(World.cell?_of_block (w:=w) (hbel.block b (kE h))).trans h
 have base:∀ M':qY,(∀ b o v,M b o=some v->M' b o=some v)->(∀ b o v,M' b o=some v->w'.cell? ⟨b,o,none⟩=some v)->(∀ b o,b<w.heap.size->M' b o=M b o)->Rd M' v (.sl 1 ((zW ks).map PD.str)) ->
   ∃ v_1 M' μ',Ending.returned v=Ending.returned v_1/\Rel ⟨w.heap.size,w,M,μ,yI μ [(i,.vars 27 [.p (.sl 1 (ks.map PD.str))])]⟩ M' μ' ⟨[.p (.sl 1 ((zW ks).map PD.str))],[],[],0⟩ #[v_1] w':=by
  intro M' hM hmem hold hrd;refine⟨v,M',μ,rfl,hmem,hM,fun b o hb=>hold b o (by have:¬ w.heap.size<=b:=fun e=>hb (.inl e);omega),⟨rfl,fun k u x hu hx => ?_⟩,fun i hi=>by simp at hi,fun i b hi=>by simp at hi,by simp,fun i j b hi=>by simp[qM]at hi,fun i b hi=>by simp[qM]at hi,hbel.size, ?_⟩
  ·cases k with
   | zero=>simp at hu hx;subst hu;subst hx;exact .p hrd
   | succ k=>simp at hu
  exact⟨hbel.os,hbel.tape,hbel.output,hbel.size,fun k hk=>hbel.block k (by have:¬ w.heap.size<=k:=fun e=>hk (.inl e);omega)⟩
 have hsk:=qNK ks;rcases hrow.2 with⟨rfl,hz⟩|⟨gb,cap,cur,rfl,hbase,hgb,r1,r2,r3,r4⟩
 ·have hks:ks=[]:=bS hz;subst hks;refine base M (fun _ _ _ h=>h) hkeep (fun _ _ _=>rfl) ?_;exact .sl 0 0 (by simp[zW]) (bP _) (by simp[maxLen]) (fun h=>(h rfl).elim) (fun i e h=>by simp[zW]at h) (fun i e j h=>by simp[zW]at h) (fun i e j d u h=>by simp[zW]at h)
 have hcell:∀ j,w'.cell? ⟨gb,j,none⟩=cur[j]?:=fun j=>zQ hgb;let M2:qY:=fun b o=>if b=gb/\o<ks.length then cur[o]? else M b o
 have hlt:∀ b o v,M b o=some v->b<w.heap.size:=fun b o v hv=>kE (rel.mem b o v hv);have hcur:∀ j,j<ks.length->cur[j]?=some (encStr ((zW ks)[j]?.getD [])):=fun j hj=>by
  have h5:(cur.toList.take (ks.length * 1))[j]?=((zW ks).map encStr)[j]?:=by rw[r4]
  rw[List.getElem?_take_of_lt (by omega)]at h5;rw[<-Array.getElem?_toList,h5];simp[show j<(zW ks).length by omega]
 have hM2:∀ o,o<ks.length->M2 gb o=cur[o]?:=fun o ho=>bE ⟨rfl,ho⟩;refine base M2 (fun b o v hv => ?_) (fun b o v hv => ?_) (fun b o hb => ?_) ?_
 ·have:=hlt b o v hv;show(if b=gb/\o<ks.length then cur[o]? else M b o)=some v
  rw[bD (by omega)];exact hv
 ·have hv':(if b=gb/\o<ks.length then cur[o]? else M b o)=some v:=hv;split at hv'
  ·rename_i h;rw[h.1,hcell];exact hv'
  exact hkeep b o v hv'
 ·show(if b=gb/\o<ks.length then cur[o]? else M b o)=M b o
  rw[bD (by omega)]
 refine .sl gb 0 (by simp[hsk]) r1 r2 (fun _=>rfl) (fun j e he => ?_) (fun j e k he hk => ?_) (fun j e k d u he hd hu => ?_)
 ·simp at he;obtain⟨s,_,rfl⟩:=he;rfl
 ·have hj:j<ks.length:=by have:=(bB.1 he).1;simp[hsk]at this;exact this
  obtain rfl:k=0:=by omega
  refine⟨_,by simp only[eB,cH,dK];rw[hM2 j hj,hcur j hj],rfl⟩
 have hj:j<ks.length:=by have:=(bB.1 he).1;simp[hsk]at this;exact this
 have hjs:j<(zW ks).length:=by omega
 simp[hjs]at he;subst he;cases k with
 | succ k=>simp[PD.cells]at hd
 | zero =>
  simp[PD.cells]at hd;subst hd;simp at hu;rw[hM2 j hj,hcur j hj]at hu;simp[hjs]at hu;subst hu;refine .str (by simp[encStr]) ?_;exact hsl _ ((List.mergeSort_perm ks _).mem_iff.1 (dV hjs))
end Go.Proofs.YtgcbapchinideaaGreatDoor
namespace Go.Proofs.YtgcbapchinideaaGreatDoor
open Sy Go
set_option maxRecDepth 100000
set_option maxHeartbeats 4000000
variable {G:qT}
def kU (a b:Int):Int:=if a<b then -1 else if b<a then 1 else 0
def jW (a b:List UInt8):Int:=if Op.bytesLess a b=true then -1 else if a=b then 0 else 1
def wL {α:Type} (p:α->α->Int):List α->List α->Int
 | [],[]=>0
 | [],_::_ => -1
 | _::_,[]=>1
 | x::xs,y::ys=>if p x y≠0 then p x y else wL p xs ys
theorem zLC (a:Int):AFn Tryz.prog G 162 [.int .i64 a] (.bool false):=by
 refine AFn.introU tok Tryz.func162 (by kernel_rfl) rfl rfl ?_;simp only[Tryz.f162,qG,bA,bC];refine rgn [] [[0]] ?_;refine op3 ?_;refine qA (rgn [] [[],[],[],[2]] ?_);iterate 4 refine op3 ?_
 exact qA (AW.ret qI)
theorem zLD (a:Int):AFn Tryz.prog G 166 [.int .i64 a] (.bool false):=by
 refine AFn.introU tok Tryz.func166 (by kernel_rfl) rfl rfl ?_;simp only[Tryz.f166,qG,bA,bC];refine rgn [] [[0]] ?_;refine op3 ?_;refine qA (rgn [] [[],[],[],[2]] ?_);iterate 4 refine op3 ?_
 exact qA (AW.ret qI)
theorem zLB (a:List UInt8):AFn Tryz.prog G 205 [.str a] (.bool false):=by
 refine AFn.introU tok Tryz.func205 (by kernel_rfl) rfl rfl ?_;simp only[Tryz.f205,qG,bA,bC];refine rgn [] [[0]] ?_;refine op3 ?_;refine qA (rgn [] [[],[],[],[2]] ?_);iterate 4 refine op3 ?_
 exact qA (AW.ret qI)
theorem zYX (a b:Int):AFn Tryz.prog G 121 [.int .i64 a,.int .i64 b] (.int .i64 (kU a b)):=by
 refine AFn.introU tok Tryz.func121 (by kernel_rfl) rfl rfl ?_;simp only[Tryz.f121,qG,bA,bC];refine rgn [] [[0,1]] ?_;refine op3 ?_;refine qA (rgn [.nilp,.bool false] [[],[],[0,1,5]] ?_);iterate 3 refine op3 ?_ (hv:=by first|exact True.intro|(exact zLC a;done)|omega|simp)
 refine qA (rgn [.nilp,.bool false] [[],[],[0,1,5,6]] ?_);iterate 3 refine op3 ?_ (hv:=by first|exact True.intro|(exact zLC b;done)|omega|simp)
 refine qA (AW.seq (rgn [] [[0,1,6,11]] ?_));refine op3 ?_;refine qA (cnd ?_ ?_)
 ·intro h11;try simp at h11
 intro h11;try simp at h11
 refine AW.skip (AW.seq (rgn [] [[0,1,13]] ?_));refine op3 ?_;refine qA (cnd ?_ ?_)
 ·intro h13;try simp at h13
 intro h13;try simp at h13
 refine AW.skip (AW.seq (rgn [] [[],[],[0,1,16]] ?_));iterate 3 refine op3 ?_
 refine qA (cnd ?_ ?_)
 ·intro h16;try simp at h16
  refine rgn [] [[]] ?_;refine op3 ?_;refine qA ?_;exact AW.ret (qI (k:=by simp[kU,h16]))
 intro h16;try simp at h16
 refine AW.skip (AW.seq (rgn [] [[],[],[19]] ?_));iterate 3 refine op3 ?_
 refine qA (cnd ?_ ?_)
 ·intro h19;try simp at h19
  refine rgn [] [[]] ?_;refine op3 ?_;refine qA ?_;exact AW.ret (qI (k:=by simp[kU,h19];omega))
 intro h19;try simp at h19
 refine AW.skip (rgn [] [[]] ?_);refine op3 ?_;refine qA ?_;exact AW.ret (qI (k:=by simp[kU];omega))
theorem zYY (a b:Int):AFn Tryz.prog G 125 [.int .i64 a,.int .i64 b] (.int .i64 (kU a b)):=by
 refine AFn.introU tok Tryz.func125 (by kernel_rfl) rfl rfl ?_;simp only[Tryz.f125,qG,bA,bC];refine rgn [] [[0,1]] ?_;refine op3 ?_;refine qA (rgn [.nilp,.bool false] [[],[],[0,1,5]] ?_);iterate 3 refine op3 ?_ (hv:=by first|exact True.intro|(exact zLD a;done)|omega|simp)
 refine qA (rgn [.nilp,.bool false] [[],[],[0,1,5,6]] ?_);iterate 3 refine op3 ?_ (hv:=by first|exact True.intro|(exact zLD b;done)|omega|simp)
 refine qA (AW.seq (rgn [] [[0,1,6,11]] ?_));refine op3 ?_;refine qA (cnd ?_ ?_)
 ·intro h11;try simp at h11
 intro h11;try simp at h11
 refine AW.skip (AW.seq (rgn [] [[0,1,13]] ?_));refine op3 ?_;refine qA (cnd ?_ ?_)
 ·intro h13;try simp at h13
 intro h13;try simp at h13
 refine AW.skip (AW.seq (rgn [] [[],[],[0,1,16]] ?_));iterate 3 refine op3 ?_
 refine qA (cnd ?_ ?_)
 ·intro h16;try simp at h16
  refine rgn [] [[]] ?_;refine op3 ?_;refine qA ?_;exact AW.ret (qI (k:=by simp[kU,h16]))
 intro h16;try simp at h16
 refine AW.skip (AW.seq (rgn [] [[],[],[19]] ?_));iterate 3 refine op3 ?_
 refine qA (cnd ?_ ?_)
 ·intro h19;try simp at h19
  refine rgn [] [[]] ?_;refine op3 ?_;refine qA ?_;exact AW.ret (qI (k:=by simp[kU,h19];omega))
 intro h19;try simp at h19
 refine AW.skip (rgn [] [[]] ?_);refine op3 ?_;refine qA ?_;exact AW.ret (qI (k:=by simp[kU];omega))
theorem zYW (a b:List UInt8):AFn Tryz.prog G 167 [.str a,.str b] (.int .i64 (jW a b)):=by
 refine AFn.introU tok Tryz.func167 (by kernel_rfl) rfl rfl ?_;simp only[Tryz.f167,qG,bA,bC];refine rgn [] [[0,1]] ?_;refine op3 ?_;refine qA (rgn [.nilp,.bool false] [[],[],[0,1,5]] ?_);iterate 3 refine op3 ?_ (hv:=by first|exact True.intro|(exact zLB a;done)|omega|simp)
 refine qA (rgn [.nilp,.bool false] [[],[],[0,1,5,6]] ?_);iterate 3 refine op3 ?_ (hv:=by first|exact True.intro|(exact zLB b;done)|omega|simp)
 refine qA (AW.seq (rgn [] [[0,1,6,11]] ?_));refine op3 ?_;refine qA (cnd ?_ ?_)
 ·intro h11;try simp at h11
 intro h11;try simp at h11
 refine AW.skip (AW.seq (rgn [] [[0,1,13]] ?_));refine op3 ?_;refine qA (cnd ?_ ?_)
 ·intro h13;try simp at h13
 intro h13;try simp at h13
 refine AW.skip (AW.seq (rgn [] [[],[],[0,1,16]] ?_));iterate 3 refine op3 ?_
 refine qA (cnd ?_ ?_)
 ·intro h16;try simp at h16
  refine rgn [] [[]] ?_;refine op3 ?_;refine qA ?_;exact AW.ret (qI (k:=by simp[jW,h16]))
 intro h16;try simp at h16
 refine AW.skip (AW.seq (rgn [] [[],[],[19]] ?_));iterate 3 refine op3 ?_
 refine qA (cnd ?_ ?_)
 ·intro h19;try simp at h19
  refine rgn [] [[]] ?_;refine op3 ?_;refine qA ?_;exact AW.ret (qI (k:=by simp[jW,h19]))
 intro h19;try simp at h19
 have hab:a=b:=h19 h16;subst hab;refine AW.skip (rgn [] [[]] ?_);refine op3 ?_;refine qA ?_;exact AW.ret (qI (k:=by simp[jW,h16]))
theorem zUQ {α:Type} (p:α->α->Int) (l:List α):wL p l []=if l=[] then 0 else 1:=by cases l <;> simp[wL]
theorem qXV {α:Type} {p:α->α->Int} {l m:List α} {k:Nat} {x y:α} (hx:l[k]?=some x) (hy:m[k]?=some y):wL p (l.drop k) (m.drop k)=if p x y≠0 then p x y else wL p (l.drop (k+1)) (m.drop (k+1)):=by
 obtain⟨h1,rfl⟩:=bB.1 hx;obtain⟨h2,rfl⟩:=bB.1 hy;rw[cJ h1,cJ h2];rfl
theorem qXU {α:Type} {p:α->α->Int} {l m:List α} {k:Nat} (h1:k<l.length) (h2:m.length<=k):wL p (l.drop k) (m.drop k)=1:=by
 rw[dQ h2,zUQ,bD (by intro h;have:=congrArg List.length h;simp at this;omega)]
theorem zFP {α:Type} {p:α->α->Int} {l m:List α} {k:Nat} (h1:l.length<=k) (hk:k<=l.length) (h2:k<=m.length):wL p (l.drop k) (m.drop k)=if l.length<m.length then -1 else 0:=by
 rw[dQ h1];by_cases h:k<m.length
 ·rw[cJ h,bE (by omega)];rfl
 rw[dQ (by omega),bD (by omega)];rfl
theorem zUP (l m:List (List UInt8)):AFn Tryz.prog G 128 [.sl 1 (l.map PD.str),.sl 1 (m.map PD.str)] (.int .i64 (wL jW l m)):=by
 refine AFn.introU tok Tryz.func128 (by kernel_rfl) rfl rfl ?_;simp only[Tryz.f128,qG,bA,bC];refine rgn [] [[0,1]] ?_;refine op3 ?_;refine qA (AW.seq (rgn [] [[],[],[]] ?_));iterate 3 refine op3 ?_
 refine qA (AW.block ?_);refine lG (i:=10) rfl (by decide) ?_;intro hlen;simp at hlen;refine AW.loop (α:=Nat) (fun k=>k<=l.length/\k<=m.length/\wL jW l m=wL jW (l.drop k) (m.drop k)) (fun k=>⟨qZ 36 [(0,.p (.sl 1 (l.map PD.str))),(1,.p (.sl 1 (m.map PD.str))),(9,.p (.sl 1 (l.map PD.str))),(10,.p (.int .i64 l.length)),(11,.p (.int .i64 k))],[],[],0⟩) (fun k=>l.length-k) (0) ⟨by omega,by omega,rfl⟩ ⟨qE (by simp),rfl,by simp,by simp⟩ ?_;rintro k ⟨hk,hkm,hall⟩;refine rgn [] [[]] ?_;refine op3 ?_;refine qA (AW.seq (cnd ?_ ?_))
 ·intro h12;try simp at h12
  obtain⟨x,hx⟩:∃ x,l[k]?=some x:=⟨l[k],by simp[h12]⟩;refine AW.skip (AW.seq (AW.block (rgn [.str x] [[],[],[],[],[0,1,5,6,9,10,11]] ?_)));iterate 5 refine op3 ?_ (hv:=by first|exact True.intro|(simp[hx];done)|omega|simp)
  refine qA (AW.seq (rgn [] [[],[],[],[0,1,5,6,9,10,11,19]] ?_));iterate 4 refine op3 ?_
  refine qA (cnd ?_ ?_)
  ·intro h19;try simp at h19
   have hR:wL jW l m=1:=by rw[hall];exact qXU (by omega) (by omega)
   refine rgn [] [[]] ?_;refine op3 ?_;refine qA ?_;exact AW.ret (qI (k:=by simp[hR]))
  intro h19;try simp at h19
  obtain⟨y,hy⟩:∃ y,m[k]?=some y:=⟨m[k]'(by omega),by simp[show k<m.length by omega]⟩;have hst:=qXV (p:=jW) hx hy;refine AW.skip (rgn [.str y] [[],[],[],[0,1,6,9,10,11,23],[0,1,6,7,9,10,11]] ?_);iterate 5 refine op3 ?_ (hv:=by first|exact True.intro|(simp[hy];done)|omega|simp)
  refine qA (rgn [.nilp,.int .i64 (jW x y)] [[],[],[0,1,9,10,11,26],[0,1,8,9,10,11]] ?_);iterate 4 refine op3 ?_ (hv:=by first|exact True.intro|(exact zYW x y;done)|omega|simp)
  refine qA (rgn [] [[],[0,1,8,9,10,11,28]] ?_);iterate 2 refine op3 ?_
  refine qA (cnd ?_ ?_)
  ·intro h28;try simp at h28
   have hR:wL jW l m=jW x y:=by rw[hall,hst,bE h28]
   refine rgn [] [[],[4]] ?_;iterate 2 refine op3 ?_
   refine qA ?_;exact AW.ret (qI (k:=by simp[hR]))
  intro h28;try simp at h28
  have hnx:wL jW l m=wL jW (l.drop (k+1)) (m.drop (k+1)):=by rw[hall,hst,bD (by omega)]
  refine AW.skip (rgz [] [[],[0,1,9,10,11]] ?_);iterate 2 refine op3 ?_
  refine qA ?_;exact⟨k+1,⟨by omega,by omega,hnx⟩,by omega,qE (by simp),rfl,by simp,by simp⟩
 intro h12;try simp at h12
 have hE:=zFP (p:=jW) (l:=l) (m:=m) (k:=k) (by omega) hk hkm;rw[<-hall]at hE;refine AW.exit ?_;simp;refine AW.seq (rgn [] [[],[],[],[32,34],[35]] ?_);iterate 5 refine op3 ?_
 refine qA (cnd ?_ ?_)
 ·intro h35;try simp at h35
  have hR:wL jW l m = -1:=by rw[hE,bE (by omega)]
  refine rgn [] [[]] ?_;refine op3 ?_;refine qA ?_;exact AW.ret (qI (k:=by simp[hR]))
 intro h35;try simp at h35
 have hR:wL jW l m=0:=by rw[hE,bD (by omega)]
 refine AW.skip (rgn [] [[]] ?_);refine op3 ?_;refine qA ?_;exact AW.ret (qI (k:=by simp[hR]))
theorem zFN (l m:List Val) (g:FuncId) (p:Val->Val->Int) (hg:∀ x∈l, ∀ y∈m,AFn Tryz.prog G g [x.enc,y.enc] (.int .i64 (p x y))):AFn Tryz.prog G 124 [.sl 9 (l.map Val.enc),.sl 9 (m.map Val.enc),.fn g] (.int .i64 (wL p l m)):=by
 refine AFn.introU tok Tryz.func124 (by kernel_rfl) rfl rfl ?_;simp only[Tryz.f124,qG,bA,bC];refine rgn [] [[0,1,2]] ?_;refine op3 ?_;refine qA (AW.seq (rgn [] [[],[],[]] ?_));iterate 3 refine op3 ?_
 refine qA (AW.block ?_);refine lG (i:=12) rfl (by decide) ?_;intro hlen;simp at hlen;refine AW.loop (α:=Nat) (fun k=>k<=l.length/\k<=m.length/\wL p l m=wL p (l.drop k) (m.drop k)) (fun k=>⟨qZ 39 [(0,.p (.sl 9 (l.map Val.enc))),(1,.p (.sl 9 (m.map Val.enc))),(2,.p (.fn g)),(11,.p (.sl 9 (l.map Val.enc))),(12,.p (.int .i64 l.length)),(13,.p (.int .i64 k))],[],[],0⟩) (fun k=>l.length-k) (0) ⟨by omega,by omega,rfl⟩ ⟨qE (by simp),rfl,by simp,by simp⟩ ?_;rintro k ⟨hk,hkm,hall⟩;refine rgn [] [[]] ?_;refine op3 ?_;refine qA (AW.seq (cnd ?_ ?_))
 ·intro h14;try simp at h14
  obtain⟨x,hx⟩:∃ x,l[k]?=some x:=⟨l[k],by simp[h14]⟩;refine AW.skip (AW.seq (AW.block (rgn [x.enc] [[],[],[],[],[],[0,1,2,7,8,11,12,13]] ?_)));iterate 6 refine op3 ?_ (hv:=by first|exact True.intro|(simp[hx];done)|omega|simp)
  refine qA (AW.seq (rgn [] [[],[],[],[0,1,2,7,8,11,12,13,21]] ?_));iterate 4 refine op3 ?_
  refine qA (cnd ?_ ?_)
  ·intro h21;try simp at h21
   have hR:wL p l m=1:=by rw[hall];exact qXU (by omega) (by omega)
   refine rgn [] [[]] ?_;refine op3 ?_;refine qA ?_;exact AW.ret (qI (k:=by simp[hR]))
  intro h21;try simp at h21
  obtain⟨y,hy⟩:∃ y,m[k]?=some y:=⟨m[k]'(by omega),by simp[show k<m.length by omega]⟩;have hst:=qXV (p:=p) hx hy;have hgv:=hg x (bH hx) y (bH hy);refine AW.skip (rgn [y.enc] [[],[],[],[0,1,2,8,11,12,13,25],[],[0,1,2,8,9,11,12,13]] ?_);iterate 6 refine op3 ?_ (hv:=by first|exact True.intro|(simp[hy];done)|omega|simp)
  refine qA (rgn [.tup [x.enc,y.enc],.int .i64 (p x y)] [[],[],[],[0,1,2,11,12,13,29],[0,1,2,10,11,12,13]] ?_);iterate 5 refine op3 ?_ (hv:=by first|exact True.intro|((simp at hgv ⊢; exact hgv);done)|omega|simp)
  refine qA (rgn [] [[],[0,1,2,10,11,12,13,31]] ?_);iterate 2 refine op3 ?_
  refine qA (cnd ?_ ?_)
  ·intro h31;try simp at h31
   have hR:wL p l m=p x y:=by rw[hall,hst,bE h31]
   refine rgn [] [[],[6]] ?_;iterate 2 refine op3 ?_
   refine qA ?_;exact AW.ret (qI (k:=by simp[hR]))
  intro h31;try simp at h31
  have hnx:wL p l m=wL p (l.drop (k+1)) (m.drop (k+1)):=by rw[hall,hst,bD (by omega)]
  refine AW.skip (rgz [] [[],[0,1,2,11,12,13]] ?_);iterate 2 refine op3 ?_
  refine qA ?_;exact⟨k+1,⟨by omega,by omega,hnx⟩,by omega,qE (by simp),rfl,by simp,by simp⟩
 intro h14;try simp at h14
 have hE:=zFP (p:=p) (l:=l) (m:=m) (k:=k) (by omega) hk hkm;rw[<-hall]at hE;refine AW.exit ?_;simp;refine AW.seq (rgn [] [[],[],[],[35,37],[38]] ?_);iterate 5 refine op3 ?_
 refine qA (cnd ?_ ?_)
 ·intro h38;try simp at h38
  have hR:wL p l m = -1:=by rw[hE,bE (by omega)]
  refine rgn [] [[]] ?_;refine op3 ?_;refine qA ?_;exact AW.ret (qI (k:=by simp[hR]))
 intro h38;try simp at h38
 have hR:wL p l m=0:=by rw[hE,bD (by omega)]
 refine AW.skip (rgn [] [[]] ?_);refine op3 ?_;refine qA ?_;exact AW.ret (qI (k:=by simp[hR]))
def zPJ (ks:List (List UInt8)) (s:List UInt8):Int:=if s∈ks then(ks.idxOf s:Int) else -1
theorem zYM (l:List (List UInt8)) (s:List UInt8):AFn Tryz.prog G 112 [.sl 1 (l.map PD.str),.str s] (.int .i64 (zPJ l s)):=by
 refine AFn.introU tok Tryz.func112 (by kernel_rfl) rfl rfl ?_;simp only[Tryz.f112,qG,bA,bC];refine rgn [] [[0,1]] ?_;refine op3 ?_;refine qA (AW.seq (rgn [] [[],[],[0,1,7,8]] ?_));iterate 3 refine op3 ?_
 refine qA (AW.block ?_);refine lG (i:=7) rfl (by decide) ?_;intro hlen;simp at hlen;refine AW.loop (α:=Nat) (fun k=>k<=l.length/\s ∉ l.take k) (fun k=>⟨qZ 19 [(0,.p (.sl 1 (l.map PD.str))),(1,.p (.str s)),(7,.p (.int .i64 l.length)),(8,.p (.int .i64 k))],[],[],0⟩) (fun k=>l.length-k) (0) ⟨by omega,by simp⟩ ⟨qE (by simp),rfl,by simp,by simp⟩ ?_;rintro k ⟨hk,hno⟩;refine rgn [] [[]] ?_;refine op3 ?_;refine qA (AW.seq (cnd ?_ ?_))
 ·intro h9;try simp at h9
  obtain⟨x,hx⟩:∃ x,l[k]?=some x:=⟨l[k],by simp[h9]⟩;refine AW.skip (AW.seq (AW.block (rgn [] [[],[0,1,5,7,8]] ?_)));iterate 2 refine op3 ?_
  refine qA (rgn [.str x] [[],[],[],[],[],[0,1,5,7,8,16]] ?_);iterate 6 refine op3 ?_ (hv:=by first|exact True.intro|(simp[hx];done)|omega|simp)
  refine qA (cnd ?_ ?_)
  ·intro h16;try simp at h16
   have hR:zPJ l s=k:=by
    have hm:s∈l:=by rw[h16];exact bH hx
    unfold zPJ;rw[bE hm];have:l.idxOf s=k:=by
     obtain⟨h1,h2⟩:=bB.1 hx;have h3:=cE k l;rw[<-h3,List.idxOf_append,bD hno,cJ h1,h2,h16,List.idxOf_cons_self];simp;omega
    rw[this]
   refine rgn [] [[],[4]] ?_;iterate 2 refine op3 ?_
   refine qA ?_;exact AW.ret (qI (k:=by simp[hR]))
  intro h16;try simp at h16
  refine AW.skip (rgz [] [[],[0,1,7,8]] ?_);iterate 2 refine op3 ?_
  refine qA ?_;exact⟨k+1,⟨by omega,by rw[bX,hx];simp;exact⟨hno,h16⟩⟩,by omega,qE (by simp),rfl,by simp,by simp⟩
 intro h9;try simp at h9
 have hR:zPJ l s = -1:=by rw[bK h9]at hno;unfold zPJ;rw[bD hno]
 refine AW.exit ?_;simp;refine rgn [] [[]] ?_;refine op3 ?_;refine qA ?_;exact AW.ret (qI (k:=by simp[hR]))
theorem wBZ (a b:Int):AFn Tryz.prog G 127 [.sl 1 [.int .i64 a,.int .i64 b]] (.int .i64 (if a≠0 then a else b)):=by
 refine AFn.introU tok Tryz.func127 (by kernel_rfl) rfl rfl ?_;simp only[Tryz.f127,qG,bA,bC];refine rgn [] [[0]] ?_;refine op3 ?_;refine qA (rgn [] [[]] ?_);refine op3 ?_;refine qA (AW.seq (rgn [] [[],[],[3,6,7,8]] ?_));iterate 3 refine op3 ?_
 refine qA (AW.block ?_);refine AW.loop (α:=Nat) (fun k=>k<=2/\(1<=k->a=0)/\(2<=k->b=0)) (fun k=>⟨qZ 18 [(3,.p (.int .i64 0)),(6,.p (.sl 1 [.int .i64 a,.int .i64 b])),(7,.p (.int .i64 2)),(8,.p (.int .i64 k))],[],[],0⟩) (fun k=>2-k) (0) ⟨by omega,by omega,by omega⟩ ⟨qE (by simp),rfl,by simp,by simp⟩ ?_;rintro k ⟨hk,h1,h2⟩;refine rgn [] [[]] ?_;refine op3 ?_;refine qA (AW.seq (cnd ?_ ?_))
 ·intro h9;try simp at h9
  have hel:[a,b][k]?=some (if k=0 then a else b):=by
   match k,h9 with
   | 0,_=>rfl
   | 1,_=>rfl
  have helP:[PD.int .i64 a,PD.int .i64 b][k]?=some (.int .i64 (if k=0 then a else b)):=by
   match k,h9 with
   | 0,_=>rfl
   | 1,_=>rfl
  refine AW.skip (AW.seq (AW.block (rgn [.int .i64 (if k=0 then a else b)] [[],[],[3,5,6,7,8]] ?_)));iterate 3 refine op3 ?_ (hv:=by first|exact True.intro|exact helP|simp[helP];done|omega|simp)
  refine qA (rgn [] [[],[],[3,5,6,7,8,14]] ?_);iterate 3 refine op3 ?_
  refine qA (cnd ?_ ?_)
  ·intro h14;try simp at h14
   have hR:(if a≠0 then a else b)=(if k=0 then a else b):=by
    by_cases hk0:k=0
    ·subst hk0;simp at h14 ⊢; intro e;exact absurd e h14
    rw[bD hk0,bD (by simp;exact h1 (by omega))]
   rw[hR];refine rgn [] [[],[2]] ?_;iterate 2 refine op3 ?_
   exact qA (AW.ret qI)
  intro h14;try simp at h14
  have e1:1<=k+1->a=0:=by
   intro _;by_cases hk0:k=0
   ·simpa[hk0]using h14
   exact h1 (by omega)
  have e2:2<=k+1->b=0:=by
   intro h;rw[bD (by omega)]at h14;exact h14
  refine AW.skip (rgz [] [[],[3,6,7,8]] ?_);iterate 2 refine op3 ?_
  refine qA ?_;exact⟨k+1,⟨by omega,e1,e2⟩,by omega,qE (by simp),rfl,by simp,by simp⟩
 intro h9;try simp at h9
 have ha:a=0:=h1 (by omega);have hb:b=0:=h2 (by omega);subst ha hb;refine AW.exit ?_;simp;refine rgn [] [[],[2]] ?_;iterate 2 refine op3 ?_
 exact qA (AW.ret qI)
def zY (s:List UInt8):Nat:=s.foldl (fun n b=>n * 10+(b.toNat-48)) 0
theorem kY (b:UInt8):qO b=true↔48<=b.toNat/\b.toNat<=57:=by simp[qO,xZ];omega
theorem qRA (s:List UInt8):∀ n,s.foldl (fun n b=>n * 10+(b.toNat-48)) n=n * 10 ^ s.length+zY s:=by
 induction s with
 | nil=>intro n;simp[zY]
 | cons b s ih =>
  intro n;have e:zY (b::s)=(b.toNat-48) * 10 ^ s.length+zY s:=by unfold zY;rw[fH,ih];simp[zY]
  rw[fH,ih,e,cA,eZ,dC,gQ,fK 10,fM]
theorem xO (b:UInt8) (s:List UInt8):zY (b::s)=(b.toNat-48) * 10 ^ s.length+zY s:=by
 unfold zY;rw[fH,qRA];simp[zY]
theorem qDF (s t:List UInt8):zY (s++t)=zY s * 10 ^ t.length+zY t:=by
 unfold zY;rw[gT,qRA];rfl
theorem qNB (s:List UInt8) (b:UInt8):zY (s++[b])=zY s * 10+(b.toNat-48):=by rw[qDF];simp[zY]
theorem uA {s:List UInt8} (h:s.all qO=true):zY s<10 ^ s.length:=by
 induction s with
 | nil=>simp[zY]
 | cons b s ih =>
  simp only[eF,bI]at h;have h1:=(kY b).1 h.1;have h2:=ih h.2;rw[xO,cA,eZ];have:b.toNat-48<=9:=by omega
  have:=cM (10 ^ s.length) this;omega
theorem zMU (n:Nat):Lib.repeatL [48] n=List.replicate n 48:=by
 induction n with
 | zero=>rfl
 | succ n ih=>simp[Lib.repeatL,ih,eU]
theorem zGS (n:Nat):zY (List.replicate n 48)=0:=by
 induction n with
 | zero=>rfl
 | succ n ih=>rw[eU,xO,ih];simp
theorem qKV (s:List UInt8) (n:Nat):zY (s++List.replicate n 48)=zY s * 10 ^ n:=by rw[qDF,zGS];simp
theorem qBM {s:List UInt8} (h:s.all qO=true) (n:Nat):(s++List.replicate n 48).all qO=true:=by
 rw[dJ,h];have:(List.replicate n (48:UInt8)).all qO=true:=bR.2 fun b hb=>by rw[(eY.1 hb).2];rfl
 rw[this];rfl
def qV:Nat:=1000000000
def zB:List Nat->Nat
 | []=>0
 | x::xs=>x+qV * zB xs
def okL (l:List Nat):Prop:=∀ x∈l,x<qV
def yY (l:List Nat):List Nat:=(l.reverse.dropWhile (· == 0)).reverse
def qFX (s:List UInt8) (e:Nat):Nat:=zY ((s.take e).drop (e-9))
def qHL (s:List UInt8):Nat->Nat->List Nat
 | 0,_=>[]
 | f+1,e=>if 0<e then qFX s e::qHL s f (e-9) else[]
theorem qPI (s:List UInt8):∀ (f g e:Nat),e<=f->e<=g->qHL s f e=qHL s g e
 | 0,0,_,_,_=>rfl
 | 0,g+1,e,h,_=>by simp only[qHL];rw[bD (by omega)]
 | f+1,0,e,_,h=>by simp only[qHL];rw[bD (by omega)]
 | f+1,g+1,e,h1,h2=>by
  simp only[qHL];split
  ·rw[qPI s f g _ (by omega) (by omega)]
  rfl
def qCO (s:List UInt8) (e:Nat):List Nat:=qHL s e e
theorem qIU {s:List UInt8} {e:Nat} (h:0<e):qCO s e=qFX s e::qCO s (e-9):=by
 unfold qCO;rw[show e=(e-1)+1 by omega];simp only[qHL];rw[bE (by omega),qPI s (e-1) (e-1+1-9) _ (by omega) (by omega)]
theorem vU (s:List UInt8):qCO s 0=[]:=rfl
theorem qIH {s:List UInt8} (h:s.all qO=true) (n:Nat):(s.take n).all qO=true:=by
 rw[bR]at h ⊢; exact fun b hb=>h b (cB hb)
theorem zGD {s:List UInt8} (h:s.all qO=true) (n:Nat):(s.drop n).all qO=true:=by
 rw[bR]at h ⊢; exact fun b hb=>h b (cQ hb)
theorem zOZ {s:List UInt8} (h:s.all qO=true) (e:Nat):qFX s e<qV:=by
 have h1:=uA (zGD (qIH h e) (e-9));have h2:((s.take e).drop (e-9)).length<=9:=by simp;omega
 have:=dI (n:=10) (by omega) h2;unfold qFX qV;omega
theorem zEF {s:List UInt8} (h:s.all qO=true):∀ (f e:Nat),e<=f->okL (qCO s e)
 | 0,e,he=>by rw[show e=0 by omega,vU];intro x hx;cases hx
 | f+1,e,he=>by
  by_cases hp:0<e
  ·rw[qIU hp];intro x hx;rcases bM.1 hx with rfl|hx
   ·exact zOZ h e
   exact zEF h f (e-9) (by omega) x hx
  rw[show e=0 by omega,vU];intro x hx;cases hx
theorem qWX {s:List UInt8} (h:s.all qO=true):∀ (f e:Nat),e<=f->e<=s.length->zB (qCO s e)=zY (s.take e)
 | 0,e,he,_=>by rw[show e=0 by omega,vU];rfl
 | f+1,e,he,hs=>by
  by_cases hp:0<e
  ·rw[qIU hp];simp only[zB];rw[qWX h f (e-9) (by omega) (by omega)];have e1:s.take e=s.take (e-9)++(s.take e).drop (e-9):=by
    have h2:=cE (e-9) (s.take e);rw[List.take_take,fV (by omega)]at h2;exact h2.symm
   have e2:zY (s.take e)=zY (s.take (e-9)) * 10 ^ ((s.take e).drop (e-9)).length+qFX s e:=by
    rw[e1,qDF,<-e1];rfl
   rw[e2];by_cases h9:9<=e
   ·have:((s.take e).drop (e-9)).length=9:=by simp;omega
    rw[this];unfold qV;omega
   rw[show e-9=0 by omega];simp[zY]
  rw[show e=0 by omega,vU];rfl
theorem qDG (l:List Nat) (x:Nat):yY (l++[x])=if x=0 then yY l else l++[x]:=by
 unfold yY;rw[List.reverse_append];simp only[List.reverse_cons,List.reverse_nil,dH,List.singleton_append,eH];by_cases h:x=0
 ·simp[h]
 simp[h]
theorem xK (l:List Nat) (x:Nat):zB (l++[x])=zB l+qV ^ l.length * x:=by
 induction l with
 | nil=>simp[zB]
 | cons a l ih=>simp only[cT,zB,ih,cA,eZ,eW];rw[fM,fK (qV ^ l.length) qV,gQ]
theorem qZA {p:List Nat->Prop} (h0:p []) (h1:∀ l x,p l->p (l++[x])) (l:List Nat):p l:=by
 have:∀ r:List Nat,p r.reverse:=by
  intro r;induction r with
  | nil=>exact h0
  | cons a r ih=>rw[List.reverse_cons];exact h1 _ _ ih
 simpa using this l.reverse
theorem qJU (l:List Nat):zB (yY l)=zB l:=by
 refine qZA (p:=fun l=>zB (yY l)=zB l) rfl (fun l x ih => ?_) l;rw[qDG];split
 ·rename_i h;rw[ih,xK,h];simp
 rfl
theorem qNE {l:List Nat} (h:okL l):okL (yY l):=by
 intro x hx;unfold yY at hx;rw[iB]at hx;exact h x (iB.1 ((dF _).subset hx))
def qQC (l:List Nat):Prop:=okL l/\l.getLast?≠some 0
theorem zGV {l:List Nat} (h:okL l):qQC (yY l):=by
 refine⟨qNE h, ?_⟩;refine qZA (p:=fun l=>(yY l).getLast?≠some 0) (by simp[yY]) (fun l x ih => ?_) l;rw[qDG];split
 ·exact ih
 rename_i h;simp;exact h
theorem qHM {l:List Nat} (h:okL l):zB l<qV ^ l.length:=by
 induction l with
 | nil=>simp[zB]
 | cons a l ih =>
  have h1:=h a (by simp);have h2:=ih fun x hx=>h x (by simp[hx]);simp only[zB,cA,eZ];have:qV * (zB l+1)<=qV * qV ^ l.length:=iF _ h2;rw[fK (qV ^ l.length)];rw[eW]at this;omega
theorem zTG {l:List Nat} (h:l≠[]) (hc:l.getLast?≠some 0):qV ^ (l.length-1)<=zB l:=by
 have hs:l=l.dropLast++[l.getLast h]:=(fI h).symm;have hx:l.getLast h≠0:=fun e=>hc (by rw[<-e];exact fD h);have hv:zB l=zB l.dropLast+qV ^ l.dropLast.length * l.getLast h:=by
  conv=>lhs;rw[hs]
  exact xK _ _
 rw[hv,List.length_dropLast];have:qV ^ (l.length-1) * 1<=qV ^ (l.length-1) * l.getLast h:=iF _ (by omega);omega
theorem qTA {l m:List Nat} (hl:qQC l) (hm:qQC m) (h:l.length<m.length):zB l<zB m:=by
 have h1:=qHM hl.1;have h2:=zTG (l:=m) (by rintro rfl;simp at h) hm.2;have h3:qV ^ l.length<=qV ^ (m.length-1):=dI (by decide) (by omega);omega
def uB (l m:List Nat):Nat->Int
 | 0=>0
 | i+1=>if l.getD i 0=m.getD i 0 then uB l m i else if l.getD i 0<m.getD i 0 then -1 else 1
def vR (l m:List Nat):Int:=if l.length≠m.length then(l.length:Int)-m.length else uB l m l.length
theorem qJY {l:List Nat} {i:Nat} (h:i<l.length):l.take (i+1)=l.take i++[l.getD i 0]:=by
 rw[gA h];simp[bJ,h]
theorem qOR {l m:List Nat} (hl:okL l) (hm:okL m) (hlen:l.length=m.length):∀ i,i<=l.length ->
  uB l m i=if zB (l.take i)<zB (m.take i) then -1 else if zB (l.take i)=zB (m.take i) then 0 else 1
 | 0,_=>by simp[uB,zB]
 | i+1,hi=>by
  have h1:=qHM (l:=l.take i) fun x hx=>hl x (cB hx);have h2:=qHM (l:=m.take i) fun x hx=>hm x (cB hx);have e1:(l.take i).length=i:=by simp;omega
  have e2:(m.take i).length=i:=by simp;omega
  rw[e1]at h1;rw[e2]at h2;rw[qJY (by omega),qJY (by omega),xK,xK,e1,e2];simp only[uB];by_cases h:l.getD i 0=m.getD i 0
  ·rw[bE h,qOR hl hm hlen i (by omega),h];have a1:(zB (l.take i)+qV ^ i * m.getD i 0<zB (m.take i)+qV ^ i * m.getD i 0)=(zB (l.take i)<zB (m.take i)):=propext (by omega);have a2:(zB (l.take i)+qV ^ i * m.getD i 0=zB (m.take i)+qV ^ i * m.getD i 0)=(zB (l.take i)=zB (m.take i)):=propext (by omega);simp only[a1,a2]
  rw[bD h];by_cases h3:l.getD i 0<m.getD i 0
  ·rw[bE h3];have:=iF (qV ^ i) (show l.getD i 0+1<=m.getD i 0 by omega);rw[eW,eB]at this;rw[bE (by omega)]
  rw[bD h3];have:=iF (qV ^ i) (show m.getD i 0+1<=l.getD i 0 by omega);rw[eW,eB]at this;rw[bD (by omega),bD (by omega)]
def sgn (n:Int):Int:=if n<0 then -1 else if n=0 then 0 else 1
theorem qPE {l m:List Nat} (hl:qQC l) (hm:qQC m):sgn (vR l m)=sgn ((zB l:Int)-zB m):=by
 unfold vR;by_cases h:l.length=m.length
 ·rw[bD (by omega),qOR hl.1 hm.1 h l.length (bP _),dW,h,dW];unfold sgn;split
  ·rw[bE (by omega),bE (by omega)]
  split
  ·rw[bD (by omega),bE rfl,bD (by omega),bE (by omega)]
  rw[bD (by omega),bD (by omega),bD (by omega),bD (by omega)]
 rw[bE h];unfold sgn;rcases Nat.lt_or_gt_of_ne h with h1|h1
 ·have:=qTA hl hm h1;rw[bE (by omega),bE (by omega)]
 have:=qTA hm hl h1;rw[bD (by omega),bD (by omega),bD (by omega),bD (by omega)]
theorem qZV (l m:List Nat) (h1:l.length<=1000000) (h2:m.length<=1000000) : -1000000<=vR l m/\vR l m<=1000000:=by
 unfold vR;split
 ·omega
 have:∀ i, -1<=uB l m i/\uB l m i<=1:=by
  intro i;induction i with
  | zero=>simp[uB]
  | succ i ih => simp only [uB]; split; · exact ih
                 ·split <;> omega
 have:=this l.length;omega
def xY (s:List UInt8):List Nat:=yY (qCO s s.length)
theorem qLW {s:List UInt8} (h:s.all qO=true):qQC (xY s):=zGV (zEF h _ _ (bP _))
theorem qLV {s:List UInt8} (h:s.all qO=true):zB (xY s)=zY s:=by
 unfold xY;rw[qJU,qWX h _ _ (bP _) (bP _),dW]
theorem qWY (s:List UInt8):∀ (f e:Nat),e<=f->(qCO s e).length<=e
 | 0,e,he=>by rw[show e=0 by omega,vU];simp
 | f+1,e,he=>by
  by_cases hp:0<e
  ·rw[qIU hp];have:=qWY s f (e-9) (by omega);simp;omega
  rw[show e=0 by omega,vU];simp
theorem qSV (s:List UInt8):(xY s).length<=s.length:=by
 have h1:(xY s).length<=(qCO s s.length).length:=by
  unfold xY yY;rw[gE];have:=(dF (fun x:Nat=>x == 0) (l:=(qCO s s.length).reverse)).length_le;simpa using this
 have:=qWY s _ s.length (bP _);omega
@[simp] def wU (n:Nat):PD := .int .u64 n
theorem qYR (l:List Nat):AFn Tryz.prog G 208 [.sl 1 (l.map wU)] (.sl 1 ((yY l).map wU)):=by
 refine AFn.introU tok Tryz.func208 (by kernel_rfl) rfl rfl ?_;simp only[Tryz.f208,qG,bA,bC];refine rgn [] [[0]] ?_;refine op3 ?_;refine qA (AW.seq (AW.block ?_));refine AW.loop (α:=List Nat) (fun r=>yY r=yY l) (fun r=>⟨qZ 21 [(0,.p (.sl 1 (r.map wU)))],[],[],0⟩) (fun r=>r.length) (l) rfl ⟨qE (by simp),rfl,by simp,by simp⟩ ?_;rintro r hr;refine nE (i:=0) rfl (by decide) ?_;intro hlen;simp at hlen;have hlast:0<r.length->r[r.length-1]?=some (r.getD (r.length-1) 0):=fun h=>by simp[bJ,show r.length-1<r.length by omega]
 refine AW.seq (rgn [.int .u64 (r.getD (r.length-1) 0:Nat)] [[],[],[],[],[],[],[0,6,7,9],[],[],[0,6,12],[],[0,14]] ?_);iterate 4 refine op3 ?_ (hv:=by first|exact True.intro|((intro h;refine⟨h,by omega,_,hlast h, ?_⟩;simp);done)|omega|simp)
 iterate 7 refine op4 ?_ (hv:=by first|exact True.intro|((intro h;refine⟨h,by omega,_,hlast h, ?_⟩;simp);done)|omega|simp)
 refine op3 ?_ (hv:=by first|exact True.intro|((intro h;refine⟨h,by omega,_,hlast h, ?_⟩;simp);done)|omega|simp);refine qA (cnd ?_ ?_)
 ·intro h14;try simp at h14
  obtain⟨s,x,rfl⟩:∃ s x,r=s++[x]:=⟨r.dropLast,r.getLast (by rintro rfl;simp at h14),(fI _).symm⟩;simp at h14;subst h14;have hr':yY s=yY l:=by rw[<-hr,qDG];simp
  have hsl:(s.length:Int)<=9223372036854775807:=by simp at hlen;omega
  refine AW.skip (AW.block (rgz [] [[],[],[],[],[19],[0]] ?_));iterate 6 refine op3 ?_
  refine qA ?_;exact⟨s,hr',by simp,qE (by simp),rfl,by simp,by simp⟩
 intro h14;try simp at h14
 have hN:yY r=r:=by
  refine qZA (p:=fun r=>(0<r.length->¬ r.getD (r.length-1) 0=0)->yY r=r) (fun _=>rfl) (fun s x _ h => ?_) r (fun h=>by have:=h14 h;simpa using this);have:=h (by simp);rw[qDG,bD (by simpa using this)]
 rw[<-hr,hN];refine AW.exit ?_;simp;refine rgn [] [[],[2]] ?_;iterate 2 refine op3 ?_
 exact qA (AW.ret qI)
theorem kV {x:Int} (h0:0<=x) (h1:x<18446744073709551616):IntKind.u64.wrap x=x:=by simp[IntKind.wrap,IntKind.bits,IntKind.signed];omega
theorem zJZ {x:Int} (h0:0<=x) (h1:x<256):IntKind.u8.wrap x=x:=by simp[IntKind.wrap,IntKind.bits,IntKind.signed];omega
theorem zSW (s:List UInt8) (hs:s.all qO=true) (hl:s.length<=1000000):AFn Tryz.prog G 203 [.str s] (.sl 1 ((xY s).map wU)):=by
 refine AFn.introU tok Tryz.func203 (by kernel_rfl) rfl rfl ?_;simp only[Tryz.f203,qG,bA,bC];refine rgn [] [[0]] ?_;refine op3 ?_;refine qA (rgn [] [[]] ?_);refine op3 ?_;refine qA (AW.seq (rgn [] [[],[],[0,3,4]] ?_));iterate 3 refine op3 ?_
 refine qA (AW.block ?_);refine lJ 3 36 24 1 (by simp) (by simp) (by conv=>lhs;simp) ?_;refine AW.loop (α:=Int × List Nat) (fun a=>a.1<=s.length /\ -9<a.1/\a.2.length<=s.length-a.1.toNat/\a.2++qCO s a.1.toNat=qCO s s.length) (fun a=>⟨qZ 39 [(0,.p (.str s)),(3,.ms 36),(4,.p (.int .i64 a.1))],[],[(36,.row 24 1 (a.2.map wU))],0⟩) (fun a=>a.1.toNat) (((s.length:Int),[])) ⟨by simp,by simp only[];omega,by simp,by simp⟩ ⟨qE (by simp),rfl,by simp,by simp⟩ ?_;rintro⟨e,acc⟩ ⟨h1,h2,hal,h3⟩;simp only at h1 h2 h3 hal;refine AW.seq (rgn [] [[],[0,3,4,11]] ?_);iterate 2 refine op3 ?_
 refine qA (cnd ?_ ?_)
 ·intro h11;try simp at h11
  obtain⟨n,rfl⟩:∃ n:Nat,e=n:=⟨e.toNat,by omega⟩;obtain⟨c,hc⟩:∃ c,c=(s.take n).drop (n-9):=⟨_,rfl⟩;have hcd:c.all qO=true:=by rw[hc];exact zGD (qIH hs n) _
  have hcl:c.length<=9:=by rw[hc];simp;omega
  have hvc:zY c=qFX s n:=by rw[hc];rfl
  have hmx:(if 9<(n:Int) then(n:Int)-9 else 0).toNat=n-9:=by split <;> omega
  refine AW.skip (AW.seq (AW.block (rgn [] [[]] ?_)));refine op3 ?_;refine qA (AW.seq (rgn [] [[],[],[],[],[],[0,3,4,5,19],[],[],[0,3,4,5,20,21,22]] ?_));iterate 9 refine op3 ?_
  refine qA (AW.block ?_);refine AW.loop (α:=Nat) (fun k=>k<=c.length) (fun k=>⟨qZ 39 [(0,.p (.str s)),(3,.ms 36),(4,.p (.int .i64 n)),(5,.p (.int .u64 (zY (c.take k):Nat))),(20,.p (.sl 1 (qQ c))),(21,.p (.int .i64 c.length)),(22,.p (.int .i64 k))],[],[(36,.row 24 1 (acc.map wU))],0⟩) (fun k=>c.length-k) (0) (by omega) ⟨qE (by simp[hmx,hc,zY]),rfl,by simp,by simp⟩ ?_;rintro k hk;have hck:=uA (qIH hcd k);have hck2:(c.take k).length<=8->zY (c.take k)<100000000:=fun h=>dR hck (dI (n:=10) (by omega) h);have hix:∀ k:Nat,k<c.length->c[k]?=some (c.getD k 0):=fun k h=>xM h;refine rgn [] [[]] ?_;refine op3 ?_;refine qA (AW.seq (cnd ?_ ?_))
  ·intro h23;try simp at h23
   have hdk:=(kY _).1 (bR.1 hcd _ (bH (hix k h23)));have hv8:zY (c.take k)<100000000:=hck2 (by simp;omega);have hsn:zY (c.take (k+1))=zY (c.take k) * 10+((c.getD k 0).toNat-48):=by rw[bX,hix k h23];exact qNB _ _
   have hbk:qS c k=((c.getD k 0).toNat:Int):=rfl;have hw1:IntKind.u8.wrap (qS c k-48)=qS c k-48:=zJZ (by omega) (by omega);have hw2:IntKind.u64.wrap ((zY (c.take k):Int) * 10)=(zY (c.take k):Int) * 10:=kV (by omega) (by omega);have hw3:IntKind.u64.wrap ((zY (c.take k):Int) * 10+(qS c k-48))=(zY (c.take (k+1)):Int):=by rw[kV (by omega) (by omega),hsn];omega
   refine AW.skip (AW.seq (AW.block (rgn [.int .u8 (qS c k)] [[],[],[0,3,4,5,7,20,21,22]] ?_)));iterate 3 refine op3 ?_ (hv:=by first|exact True.intro|exact qCX (hix k h23)|simp;done|omega|simp)
   refine qA (rgz [] [[],[],[],[0,3,4,20,21,22,27,29],[],[],[0,3,4,5,20,21,22]] ?_);iterate 7 refine op3 ?_
   refine qA (rgz [] [[],[0,3,4,5,20,21,22]] ?_);iterate 2 refine op3 ?_
   refine qA ?_;exact⟨k+1,by omega,by omega,qE (by simp[hw1,hw2,hw3]),rfl,by simp[hw1,hw2,hw3],by simp[hw1,hw2,hw3]⟩
  intro h23;try simp at h23
  have hkc:k=c.length:=by omega
  subst hkc;simp only[dW,hvc];have hlz:=qIU (s:=s) (e:=n) (by omega);have h3':acc++[qFX s n]++qCO s ((n:Int)-9).toNat=qCO s s.length:=by
   rw[<-h3,show((n:Int)).toNat=n by omega,hlz,show((n:Int)-9).toNat=n-9 by omega];simp
  refine AW.exit ?_;simp;refine rgz [.int .u64 (qFX s n:Nat)] [[],[],[],[0,4,36],[0,3,4]] ?_;iterate 5 refine op3 ?_ (hv:=by first|exact True.intro|((simp;omega);done)|omega|simp)
  refine qA (rgz [] [[],[],[0,3,4]] ?_);iterate 3 refine op3 ?_
  refine qA ?_;exact⟨(n:Int)-9,acc++[qFX s n],⟨by omega,by omega,by simp;omega,h3'⟩,by omega,qE (by simp),rfl,by simp,by simp⟩
 intro h11;try simp at h11
 have hacc:acc=qCO s s.length:=by rw[<-h3,show e.toNat=0 by omega,vU];simp
 subst hacc;refine AW.exit ?_;simp;refine rgn [.nilp,.sl 1 ((xY s).map wU)] [[],[],[2]] ?_;iterate 3 refine op3 ?_ (hv:=by first|exact True.intro|(exact qYR _;done)|omega|simp)
 exact qA (AW.ret qI)
theorem qWK (l m:List Nat) (h1:l.length<=1000000) (h2:m.length<=1000000):AFn Tryz.prog G 164 [.sl 1 (l.map wU),.sl 1 (m.map wU)] (.int .i64 (vR l m)):=by
 refine AFn.introU tok Tryz.func164 (by kernel_rfl) rfl rfl ?_;simp only[Tryz.f164,qG,bA,bC];have hixl:∀ k:Nat,k<l.length->l[k]?=some (l.getD k 0):=fun k h=>by simp[bJ,h]
 have hixm:∀ k:Nat,k<m.length->m[k]?=some (m.getD k 0):=fun k h=>by simp[bJ,h]
 refine rgn [] [[0,1]] ?_;refine op3 ?_;refine qA (AW.seq (rgn [] [[],[],[],[],[0,1,10]] ?_));iterate 5 refine op3 ?_
 refine qA (cnd ?_ ?_)
 ·intro h10;try simp at h10
  have hN:vR l m=(l.length:Int)-m.length:=by simp only[vR];rw[bE (by omega)]
  refine rgn [] [[],[],[],[12,14],[],[4]] ?_;iterate 6 refine op3 ?_
  refine qA ?_;exact AW.ret (qI (k:=by simp[hN]))
 intro h10;try simp at h10
 have hlen:l.length=m.length:=by omega
 have hN:vR l m=uB l m l.length:=by simp only[vR];rw[bD (by omega)]
 rw[hN];refine AW.skip (AW.seq (rgn [] [[],[],[],[0,1,5]] ?_));iterate 4 refine op3 ?_
 refine qA (AW.block ?_);refine AW.loop (α:=Nat) (fun k=>k<=l.length/\uB l m l.length=uB l m k) (fun k=>⟨qZ 41 [(0,.p (.sl 1 (l.map wU))),(1,.p (.sl 1 (m.map wU))),(5,.p (.int .i64 (k-1)))],[],[],0⟩) (fun k=>k) (l.length) ⟨bP _,rfl⟩ ⟨qE (by simp),rfl,by simp,by simp⟩ ?_;rintro k ⟨hk,ht⟩;refine AW.seq (rgn [] [[],[0,1,5,20]] ?_);iterate 2 refine op3 ?_
 refine qA (cnd ?_ ?_)
 ·intro h20;try simp at h20
  obtain⟨k,rfl⟩:∃ j,k=j+1:=⟨k-1,by omega⟩;have hkl:k<l.length:=by omega
  have hkm:k<m.length:=by omega
  have hgl:=hixl k hkl;have hgm:=hixm k hkm;have hti:((k+1:Nat):Int)-1=k:=by omega
  simp only[hti];generalize hx:l.getD k 0=x at *;generalize hy:m.getD k 0=y at *;simp only[uB,hx,hy]at ht;rw[ht];refine AW.skip (AW.seq (AW.block ?_));refine iL tok mixed [0,1,5,31] 9 [[0],[5],[23,24],[25],[1],[5],[27,28],[29],[26,30]] [.int .u64 x,.int .u64 y] [] (by kernel_rfl) (by intro C;conv=>lhs;simp) (by simp[hgl,hgm]) (by simp[Sm.sum,Sm.foot,Sm.tch,Sm.refs];kernel_rfl) (by intro C;conv=>lhs;simp) (by first|exact True.intro|omega|simp) ?_;refine cnd ?_ ?_
  ·intro h31;try simp at h31
   rw[bD (by omega)];refine AW.seq ?_;refine iL tok mixed [40] 9 [[0],[5],[32,33],[34],[1],[5],[36,37],[38],[35,39]] [.int .u64 x,.int .u64 y] [] (by kernel_rfl) (by intro C;conv=>lhs;simp) (by simp[hgl,hgm]) (by simp[Sm.sum,Sm.foot,Sm.tch,Sm.refs];kernel_rfl) (by intro C;conv=>lhs;simp) (by first|exact True.intro|omega|simp) ?_;refine cnd ?_ ?_
   ·intro h40;try simp at h40
    rw[bE (by omega)];refine rgn [] [[]] ?_;refine op3 ?_;exact qA (AW.ret qI)
   intro h40;try simp at h40
   rw[bD (by omega)];refine AW.skip (rgn [] [[]] ?_);refine op3 ?_;exact qA (AW.ret qI)
  intro h31;try simp at h31
  refine AW.skip (rgz [] [[],[],[0,1,5]] ?_);iterate 3 refine op3 ?_
  refine qA ?_;exact⟨k,⟨by omega,by rw[bE (by omega)]⟩,by omega,qE (by simp),rfl,by simp,by simp⟩
 intro h20;try simp at h20
 have hk0:k=0:=by omega
 subst hk0;rw[ht];simp only[uB];refine AW.exit ?_;simp;refine rgn [] [[]] ?_;refine op3 ?_;exact qA (AW.ret qI)
def jU (d:Dc) (sc:Int):List UInt8:=d.digits++List.replicate (sc-d.scale).toNat 48
theorem zGE (d:Dc) (sc:Int) (h1:d.digits.length<=1000) (h2:0<=d.scale) (h3:d.scale<=sc) (h4:sc<=1000) (hd:d.digits.all qO=true):AFn Tryz.prog G 202 [d.enc,.ref [.int .i64 sc]] (.sl 1 ((xY (jU d sc)).map wU)):=by
 refine AFn.introU tok Tryz.func202 (by kernel_rfl) rfl rfl ?_;simp only[Tryz.f202,qG,bA,bC];have hre:=qOO (G:=G) [48] (sc-d.scale).toNat (by simp;omega);rw[zMU,show(((sc-d.scale).toNat:Nat):Int)=sc-d.scale by omega]at hre;have hna:=zSW (G:=G) (jU d sc) (qBM hd _) (by simp[jU];omega);unfold jU at hna;unfold jU;refine rgn [] [[],[1,2]] ?_;iterate 2 refine op3 ?_
 refine qA ?_;refine iL tok mixed [3] 9 [[2],[4],[1],[2],[7],[6,8],[9],[5,10],[11]] [.nilp,.str (List.replicate (sc-d.scale).toNat 48),.nilp,.sl 1 ((xY (d.digits++List.replicate (sc-d.scale).toNat 48)).map wU)] [] (by kernel_rfl) (by intro C;conv=>lhs;simp) (by((repeat' (first|with_reducible apply And.intro|intro _)) <;> first|exact(hre)|exact(hna)|assumption|omega|contradiction|simp_all)) (by simp[Sm.sum,Sm.foot,Sm.tch,Sm.refs];kernel_rfl) (by intro C;conv=>lhs;simp) (by first|exact True.intro|omega|simp) ?_;exact AW.ret qI
def wA (a b:Dc):Int:=if a.scale<b.scale then b.scale else a.scale
def okD (d:Dc):Prop:=d.digits.length<=1000/\0<=d.scale/\d.scale<=1000/\d.digits.all qO=true
theorem qUH (a b:Dc) (ha:okD a) (hb:okD b):AFn Tryz.prog G 163 [a.enc,b.enc] (.tup [.sl 1 ((xY (jU a (wA a b))).map wU),.sl 1 ((xY (jU b (wA a b))).map wU),.int .i64 (wA a b)]):=by
 refine AFn.introU tok Tryz.func163 (by kernel_rfl) rfl rfl ?_;simp only[Tryz.f163,qG,bA,bC];obtain⟨a1,a2,a3,a4⟩:=ha;obtain⟨b1,b2,b3,b4⟩:=hb;have hm1:a.scale<=wA a b:=by unfold wA;split <;> omega
 have hm2:b.scale<=wA a b:=by unfold wA;split <;> omega
 have hm3:wA a b<=1000:=by unfold wA;split <;> omega
 have e1:=zGE (G:=G) a (wA a b) a1 a2 hm1 hm3 a4;have e2:=zGE (G:=G) b (wA a b) b1 b2 hm2 hm3 b4;have hmx:(if a.scale<b.scale then b.scale else a.scale)=wA a b:=rfl;refine rgn [] [[],[],[],[2,3],[2,3]] ?_;iterate 5 refine op3 ?_
 refine qA (rgn [] [[],[],[],[],[2,3,13],[],[2,3,7]] ?_);iterate 7 refine op3 ?_
 refine qA (rgn [] [[],[2,3,7,8]] ?_);iterate 2 refine op3 ?_
 refine qA ?_;refine AW.freezeV 7 (by conv=>lhs;simp[hmx]) ?_;refine iL tok mixed [4,5,6] 9 [[8],[2],[15,16],[8],[3],[18,19],[7],[17],[20]] [.nilp,.sl 1 ((xY (jU a (wA a b))).map wU),.nilp,.sl 1 ((xY (jU b (wA a b))).map wU)] [] (by kernel_rfl) (by intro C;conv=>lhs;simp) (by((repeat' (first|with_reducible apply And.intro|intro _)) <;> first|exact(e1)|exact(e2)|assumption|omega|contradiction|simp_all)) (by simp[Sm.sum,Sm.foot,Sm.tch,Sm.refs];kernel_rfl) (by intro C;conv=>lhs;simp) (by first|exact True.intro|omega|simp) ?_;exact AW.ret qI
def qDU (a b:Dc):Int:=vR (xY (jU a (wA a b))) (xY (jU b (wA a b)))
def qHY (a b:Dc):Int:=if a.neg=b.neg then(if a.neg=true then sgn (- qDU a b) else sgn (qDU a b)) else if a.neg=true then -1 else 1
theorem zNR (n:Int):(if 1<(if n < -1 then -1 else n) then 1 else(if n < -1 then -1 else n))=sgn n:=by unfold sgn;split <;> split <;> (try split) <;> omega
theorem zYZ (a b:Dc) (ha:okD a) (hb:okD b):AFn Tryz.prog G 122 [a.enc,b.enc] (.int .i64 (qHY a b)):=by
 refine AFn.introU tok Tryz.func122 (by kernel_rfl) rfl rfl ?_;simp only[Tryz.f122,qG,bA,bC];have hal:=qUH (G:=G) a b ha hb;have hl:∀ (d:Dc),okD d->∀ sc:Int,sc<=1000->(xY (jU d sc)).length<=1000000:=fun d hd sc hs=>by
  have:=qSV (jU d sc);have:=hd.1;have:=hd.2.1;simp[jU]at *; omega
 have hm3:wA a b<=1000:=by have:=ha.2.2.1;have:=hb.2.2.1;unfold wA;split <;> omega
 have hcm:=qWK (G:=G) (xY (jU a (wA a b))) (xY (jU b (wA a b))) (hl a ha _ hm3) (hl b hb _ hm3);have hrg:=qZV (xY (jU a (wA a b))) (xY (jU b (wA a b))) (hl a ha _ hm3) (hl b hb _ hm3);rw[show vR (xY (jU a (wA a b))) (xY (jU b (wA a b)))=qDU a b from rfl]at hcm hrg;have hwn:IntKind.i64.wrap (- qDU a b) = - qDU a b:=by simp[IntKind.wrap,IntKind.bits,IntKind.signed];omega
 refine rgn [] [[],[],[2,3]] ?_;iterate 3 refine op3 ?_
 refine qA (rgn [.nilp,.tup [.sl 1 ((xY (jU a (wA a b))).map wU),.sl 1 ((xY (jU b (wA a b))).map wU),.int .i64 (wA a b)]] [[],[],[],[],[],[],[2,3,13,14,15],[],[],[2,3,5,6]] ?_);iterate 10 refine oq1 tok hal ?_
 refine qA (rgn [.nilp,.int .i64 (qDU a b)] [[],[],[2,3,18],[2,3,8]] ?_);iterate 4 refine oq1 tok hcm ?_
 refine qA (AW.seq (AW.block (rgn [] [[],[],[],[],[2,8,24],[2,8,19]] ?_)));iterate 6 refine op3 ?_
 refine qA (cnd ?_ ?_)
 ·intro h19;try simp at h19
  refine rgn [] [[]] ?_;refine op3 ?_;refine qA (rgn [] [[],[8,26]] ?_);iterate 2 refine op3 ?_
  refine qA (cnd ?_ ?_)
  ·intro h26;try simp at h26
   have hC:qHY a b = -1:=by unfold qHY;rw[bD h19,bE h26]
   refine rgz [] [[]] ?_;refine op3 ?_;refine qA (rgn [] [[],[],[],[4]] ?_);iterate 4 refine op3 ?_
   refine qA ?_;exact AW.ret (qI (k:=by simp[hC]))
  intro h26;try simp at h26
  have hC:qHY a b=1:=by unfold qHY;rw[bD h19,bD (by simp[h26])]
  refine AW.skip (rgn [] [[],[],[],[4]] ?_);iterate 4 refine op3 ?_
  refine qA ?_;exact AW.ret (qI (k:=by simp[hC]))
 intro h19;try simp at h19
 refine rgn [] [[],[],[8,27]] ?_;iterate 3 refine op3 ?_
 refine qA (cnd ?_ ?_)
 ·intro h27;try simp at h27
  have hC:qHY a b=sgn (- qDU a b):=by unfold qHY;rw[bE h19,bE h27]
  refine rgz [] [[],[],[8]] ?_;iterate 3 refine op3 ?_
  refine qA (rgn [] [[],[],[],[4]] ?_);iterate 4 refine op3 ?_
  refine qA ?_;exact AW.ret (qI (k:=by(simp[hwn,hC];unfold sgn;(repeat' split) <;> omega)))
 intro h27;try simp at h27
 have hC:qHY a b=sgn (qDU a b):=by unfold qHY;rw[bE h19,bD (by simp[h27])]
 refine AW.skip (rgn [] [[],[],[],[4]] ?_);iterate 4 refine op3 ?_
 refine qA ?_;exact AW.ret (qI (k:=by simp[zNR,hC]))
theorem jR {d:Dc} (h:zJ d=true):okD d/\d.digits.length<=60/\d.scale<=60:=by
 unfold zJ at h;simp only[bI,bY]at h;obtain⟨⟨h1,h2⟩,_⟩:=h;exact⟨⟨by omega,by omega,by omega,h1⟩,by omega,by omega⟩
def qN (d:Dc):Nat:=zY d.digits * 10 ^ (60-d.scale.toNat)
def qD (d:Dc):Int:=if d.neg=true then-(qN d:Int) else qN d
theorem zXM {a:Int} {k:Int} (hk:0<k):sgn (a * k)=sgn a:=by
 unfold sgn;by_cases h1:a<0
 ·rw[bE h1,bE (Int.mul_neg_of_neg_of_pos h1 hk)]
 rw[bD h1];by_cases h2:a=0
 ·subst h2;simp
 have:=Int.mul_pos (show 0<a by omega) hk;rw[bD h2,bD (by omega),bD (by omega)]
theorem zSB {a b:Dc} (ha:zJ a=true) (hb:zJ b=true):sgn (qDU a b)=sgn ((qN a:Int)-qN b):=by
 obtain⟨⟨a1,a2,a3,a4⟩,a5,a6⟩:=jR ha;obtain⟨⟨b1,b2,b3,b4⟩,b5,b6⟩:=jR hb;have hm1:a.scale<=wA a b:=by unfold wA;split <;> omega
 have hm2:b.scale<=wA a b:=by unfold wA;split <;> omega
 have hm3:wA a b<=60:=by unfold wA;split <;> omega
 unfold qDU jU;rw[qPE (qLW (qBM a4 _)) (qLW (qBM b4 _)),qLV (qBM a4 _),qLV (qBM b4 _),qKV,qKV];have ea:(qN a:Int)=((zY a.digits * 10 ^ (wA a b-a.scale).toNat:Nat):Int) * ((10 ^ (60-(wA a b).toNat):Nat):Int):=by
  rw[<-Int.natCast_mul,gQ,<-Nat.pow_add,show(wA a b-a.scale).toNat+(60-(wA a b).toNat)=60-a.scale.toNat by omega];rfl
 have eb:(qN b:Int)=((zY b.digits * 10 ^ (wA a b-b.scale).toNat:Nat):Int) * ((10 ^ (60-(wA a b).toNat):Nat):Int):=by
  rw[<-Int.natCast_mul,gQ,<-Nat.pow_add,show(wA a b-b.scale).toNat+(60-(wA a b).toNat)=60-b.scale.toNat by omega];rfl
 rw[ea,eb,<-Int.sub_mul,zXM (by have:=gJ (n:=60-(wA a b).toNat) (show 0<10 by omega);omega)]
theorem zKR (n:Int):sgn (- n) = - sgn n:=by unfold sgn;split <;> split <;> (try split) <;> omega
theorem qCE {s:List UInt8} (hd:s.all qO=true) (hl:0<s.length) (h:qS s 0≠48):10 ^ (s.length-1)<=zY s:=by
 cases s with
 | nil=>simp at hl
 | cons b s =>
  simp only[eF,bI]at hd;have h1:=(kY b).1 hd.1;have h2:b.toNat≠48:=by simp[qS]at h;omega
  rw[xO];have:=cM (10 ^ s.length) (show 1<=b.toNat-48 by omega);simp;omega
theorem zKV {d:Dc} (h:zJ d=true) (h0:qN d=0):d.neg=false:=by
 have hk:=jR h;unfold zJ at h;simp only[bI,bY]at h;obtain⟨⟨h1,h2⟩,h3⟩:=h;by_cases hz:d.digits=[48]
 ·rw[bE hz]at h3;simp at h3;exact h3.2
 rw[bD hz]at h3;simp at h3;have:=qCE h1 (by omega) h3.1;have hp:=gJ (n:=d.digits.length-1) (show 0<10 by omega);have hq:0<qN d:=Nat.mul_pos (by omega) (gJ (by omega));omega
theorem zPU {a b:Dc} (ha:zJ a=true) (hb:zJ b=true):qHY a b=sgn (qD a-qD b):=by
 have hr:=zSB ha hb;unfold qHY;by_cases h:a.neg=b.neg
 ·rw[bE h];unfold qD;rw[<-h];split
  ·rw[zKR,hr,<-zKR];congr 1;omega
  exact hr
 rw[bD h];have hz1:=fun h0=>zKV ha h0;have hz2:=fun h0=>zKV hb h0;unfold qD;cases hna:a.neg with
 | true =>
  have hnb:b.neg=false:=by rw[hna]at h;simpa using h
  have:qN a≠0:=fun e=>by have:=hz1 e;rw[hna]at this;cases this
  rw[hnb];simp[sgn];omega
 | false =>
  have hnb:b.neg=true:=by rw[hna]at h;simpa using h
  have:qN b≠0:=fun e=>by have:=hz2 e;rw[hnb]at this;cases this
  rw[hnb];simp[sgn];omega
def uH (s:List UInt8) (i:Nat):Nat->Nat->Int->Option Int
 | 0,_,v=>some v
 | r+1,j,v=>match s[i+j]? with
  | none=>none
  | some c=>if(c.toNat:Int)<128\/192<=(c.toNat:Int) then none else uH s i r (j+1) (64 * v+c.toNat-128)
def jQ (c:Int):Nat × Int × Int :=
 if 194<=c/\c<224 then(2,128,c-192) else if 224<=c/\c<240 then(3,2048,c-224) else if 240<=c/\c<245 then(4,65536,c-240) else(0,0,0)
def qSA (low:Int) (need:Nat):Option Int->Int × Int
 | none=>(0,0)
 | some v=>if v<low\/v > 1114111\/(55296<=v/\v<57344) then(0,0) else(v,need)
def jZ (s:List UInt8) (i:Nat) (x:Nat × Int × Int):Int × Int:=if x.1=0\/s.length<i+x.1 then(0,0) else qSA x.2.1 x.1 (uH s i (x.1-1) 1 x.2.2)
def kD (s:List UInt8) (i:Nat):Int × Int:=match s[i]? with
 | none=>(0,0)
 | some b=>if(b.toNat:Int)<128 then(b.toNat,1) else jZ s i (jQ b.toNat)
def rS (s:List UInt8) (i:Nat) (x:Nat × Int × Int):St:=⟨[.p (.str s),.p (.int .i64 i),.dead,.dead,.p (.int .i64 0),.p (.int .i64 0),.dead,.p (.int .i64 x.1),.p (.int .i64 x.2.1),.p (.int .i64 x.2.2)]++List.replicate 86 .dead,[],[],0⟩
def rS2 (s:List UInt8) (i:Nat) (need:Nat) (low:Int) (a:Nat × Int):St:=⟨[.p (.str s),.p (.int .i64 i),.dead,.dead,.p (.int .i64 0),.p (.int .i64 0),.dead,.p (.int .i64 need),.p (.int .i64 low),.p (.int .i64 a.2),.p (.int .i64 a.1)]++List.replicate 85 .dead,[],[],0⟩
theorem zZS (s:List UInt8) (i:Nat) (hi:i<s.length) (hs:s.length<=1000000000):AFn Tryz.prog G 92 [.str s,.int .i64 i] (.tup [.int .i64 (kD s i).1,.int .i64 (kD s i).2]):=by
 refine AFn.intro tok Tryz.func92 (by kernel_rfl) rfl ?_;simp only[Tryz.f92,lC];obtain⟨b,hb⟩:∃ b,s[i]?=some b:=⟨s[i],by simp[hi]⟩;have hblt:b.toNat<256:=b.toNat_lt;have hrune:kD s i=if(b.toNat:Int)<128 then((b.toNat:Int),1) else jZ s i (jQ b.toNat):=by simp only[kD,hb]
 refine iM tok [] (by intro C;conv=>lhs;simp) trivial ?_;refine iM tok [.int .u8 b.toNat] (by intro C;conv=>lhs;simp) (by simp[hb]) ?_;refine iM tok [] (by intro C;conv=>lhs;simp) trivial ?_;refine iM tok [] (by intro C;conv=>lhs;simp) trivial ?_;refine iM tok [] (by intro C;conv=>lhs;simp) trivial ?_;refine AW.join (α:=Nat × Int × Int) (fun x=>kD s i=jZ s i x/\x.1<=4/\0<=x.2.2/\x.2.2<=40) (fun x=>rS s i x) ?_ ?_
 ·refine AW.block ?_;refine iM tok [] (by intro C;conv=>lhs;simp) trivial ?_;refine AW.cond (c := .tmp 16) (by conv=>lhs;simp) trivial ?_ ?_
  ·intro h1;simp at h1;refine iM tok [] (by intro C;conv=>lhs;simp) trivial ?_;exact AW.ret ⟨.inr rfl,_,_,by(conv=>lhs;simp),trivial,by rw[hrune,bE h1];simp⟩
  intro h1;simp at h1;have hr2:kD s i=jZ s i (jQ b.toNat):=by rw[hrune,bD (by omega)]
  refine iM tok [] (by intro C;conv=>lhs;simp) (by simp) ?_;refine AW.cond (c := .tmp 20) (by conv=>lhs;simp) trivial ?_ ?_
  ·intro h2;simp at h2;refine iM tok [] (by intro C;conv=>lhs;simp) trivial ?_;refine iM tok [] (by intro C;conv=>lhs;simp) trivial ?_;refine AW.run tok [] (by intro C;conv=>lhs;simp) (by omega) ?_;exact⟨(2,128,b.toNat-192),⟨by rw[hr2];simp[jQ,h2],by simp,by simp;omega,by simp;omega⟩,by simp[rS],rfl,by simp[rS],by simp[rS]⟩
  intro h2;refine iM tok [] (by intro C;conv=>lhs;simp) (by simp) ?_;refine AW.cond (c := .tmp 29) (by conv=>lhs;simp) trivial ?_ ?_
  ·intro h3;simp at h3;refine iM tok [] (by intro C;conv=>lhs;simp) trivial ?_;refine iM tok [] (by intro C;conv=>lhs;simp) trivial ?_;refine AW.run tok [] (by intro C;conv=>lhs;simp) (by omega) ?_;exact⟨(3,2048,b.toNat-224),⟨by rw[hr2];simp[jQ,h3,show ¬ ((b.toNat:Int)<224) by omega],by simp,by simp;omega,by simp;omega⟩,by simp[rS],rfl,by simp[rS],by simp[rS]⟩
  intro h3;refine iM tok [] (by intro C;conv=>lhs;simp) (by simp) ?_;refine AW.cond (c := .tmp 38) (by conv=>lhs;simp) trivial ?_ ?_
  ·intro h4;simp at h4;refine iM tok [] (by intro C;conv=>lhs;simp) trivial ?_;refine iM tok [] (by intro C;conv=>lhs;simp) trivial ?_;refine AW.run tok [] (by intro C;conv=>lhs;simp) (by omega) ?_;exact⟨(4,65536,b.toNat-240),⟨by rw[hr2];simp[jQ,h4,show ¬ ((b.toNat:Int)<224) by omega,show ¬ ((b.toNat:Int)<240) by omega],by simp,by simp;omega,by simp;omega⟩,by simp[rS],rfl,by simp[rS],by simp[rS]⟩
  intro h4;simp at h2 h3 h4;refine AW.skip ?_;exact⟨(0,0,0),⟨by rw[hr2];simp[jQ,show ¬ (194<=(b.toNat:Int)/\(b.toNat:Int)<224) by omega,show ¬ (224<=(b.toNat:Int)/\(b.toNat:Int)<240) by omega,show ¬ (240<=(b.toNat:Int)/\(b.toNat:Int)<245) by omega],
   by simp,by simp,by simp⟩,by simp[rS],rfl,by simp[rS],by simp[rS]⟩
 rintro⟨need,low,v0⟩ ⟨hr,hneed,hv0,hv1⟩;simp only at hneed hv0 hv1;simp only[rS];rw[hr];refine AW.seq ?_;refine iM tok [] (by intro C;conv=>lhs;simp) (by simp +contextual;omega) ?_;refine AW.cond (c := .tmp 56) (by conv=>lhs;simp) trivial ?_ ?_
 ·intro h1;simp at h1;refine iM tok [] (by intro C;conv=>lhs;simp) trivial ?_;exact AW.ret ⟨.inr rfl,_,_,by(conv=>lhs;simp),trivial,by simp[jZ,show need=0\/s.length<i+need by omega]⟩
 intro h1;simp at h1;have hfit:¬ (need=0\/s.length<i+need):=by omega
 have htl:jZ s i (need,low,v0)=qSA low need (uH s i (need-1) 1 v0):=by simp only[jZ];rw[bD hfit]
 rw[htl];refine AW.skip (AW.seq ?_);refine iM tok [] (by intro C;conv=>lhs;simp) trivial ?_;refine AW.block ?_;refine AW.loop (α:=Nat × Int) (fun a=>1<=a.1/\a.1<=need/\uH s i (need-1) 1 v0=uH s i (need-a.1) a.1 a.2/\0<=a.2/\(a.1=1->a.2<=40)/\(a.1=2->a.2<=3000)/\(a.1=3->a.2<=200000)/\(a.1=4->a.2<=14000000))
  (fun a=>rS2 s i need low a) (fun a=>need-a.1) (1,v0) ⟨by simp,by omega,rfl,hv0,fun _=>hv1,by simp,by simp,by simp⟩ ⟨by simp[rS2],rfl,by simp[rS2],by simp[rS2]⟩ ?_
 rintro⟨j,v⟩ ⟨hj1,hj2,hlp,hv,hb1,hb2,hb3,hb4⟩;simp only at hj1 hj2 hlp hv hb1 hb2 hb3 hb4;simp only[rS2];refine AW.seq ?_;refine iM tok [] (by intro C;conv=>lhs;simp) trivial ?_;refine AW.cond (c := .tmp 59) (by conv=>lhs;simp) trivial ?_ ?_
 ·intro h4;simp at h4;obtain⟨c,hc⟩:∃ c,s[i+j]?=some c:=⟨s[i+j]'(by omega),by simp[show i+j<s.length by omega]⟩;have hclt:c.toNat<256:=c.toNat_lt;have hstep:uH s i (need-j) j v=if(c.toNat:Int)<128\/192<=(c.toNat:Int) then none else uH s i (need-(j+1)) (j+1) (64 * v+c.toNat-128):=by
   rw[show need-j=(need-(j+1))+1 by omega];simp only[uH,hc]
  refine AW.skip (AW.seq (AW.block ?_));refine iM tok [.int .u8 c.toNat] (by intro C;conv=>lhs;simp) (by rw[show((i:Int)+j).toNat=i+j by omega];simp[hc];omega) ?_;refine AW.seq ?_;refine iM tok [] (by intro C;conv=>lhs;simp) (by simp) ?_;refine AW.cond (c := .tmp 73) (by conv=>lhs;simp) trivial ?_ ?_
  ·intro h5;simp at h5;refine iM tok [] (by intro C;conv=>lhs;simp) trivial ?_;exact AW.ret ⟨.inr rfl,_,_,by(conv=>lhs;simp),trivial,by rw[hlp,hstep,bE (by omega)];simp[qSA]⟩
  intro h5;simp at h5;refine AW.skip ?_;refine AW.run tok [] (by intro C;conv=>lhs;simp) (by omega) ?_;refine AW.run tok [] (by intro C;conv=>lhs;simp) (by omega) ?_;exact⟨(j+1,64 * v+c.toNat-128),⟨by simp,by simp;omega,by rw[hlp,hstep,bD (by omega)],by simp;omega,by simp;omega,by simp;omega,by simp;omega,by simp;omega⟩,by simp;omega,by simp[rS2],rfl,by simp[rS2],by simp[rS2]⟩
 intro h4;simp at h4;have hjn:j=need:=by omega
 subst hjn;rw[hlp];simp only[gL,uH];refine AW.exit ?_;simp;refine AW.seq ?_;refine iM tok [] (by intro C;conv=>lhs;simp) (by omega) ?_;refine AW.cond (c := .tmp 93) (by conv=>lhs;simp) trivial ?_ ?_
 ·intro h5;simp at h5;refine iM tok [] (by intro C;conv=>lhs;simp) trivial ?_;exact AW.ret ⟨.inr rfl,_,_,by(conv=>lhs;simp),trivial,by simp only[qSA];rw[bE (by omega)];simp⟩
 intro h5;simp at h5;refine AW.skip ?_;refine iM tok [] (by intro C;conv=>lhs;simp) trivial ?_;exact AW.ret ⟨.inr rfl,_,_,by(conv=>lhs;simp),trivial,by simp only[qSA];rw[bD (by omega)];simp⟩
theorem qWC (s:List UInt8) (i:Nat) (hi:i<s.length):0<=(kD s i).2/\(i:Int)+(kD s i).2<=s.length/\(kD s i).2<=4:=by
 unfold kD;split
 ·simp;omega
 rename_i b hb;split
 ·simp;omega
 have h4:(jQ b.toNat).1<=4:=by
  unfold jQ;split
  ·simp
  split
  ·simp
  split <;> simp
 generalize jQ b.toNat=x at h4;unfold jZ;split
 ·simp;omega
 rename_i h;have h':i+x.1<=s.length:=by omega
 unfold qSA;split
 ·simp;omega
 split
 ·simp;omega
 simp only;omega
def qOQ (s:List UInt8):Nat->Nat->Bool
 | 0,_=>true
 | f+1,i=>if i<s.length then(if(kD s i).2=0 then false else qOQ s f (i+(kD s i).2.toNat)) else true
def qCD (s:List UInt8):Bool:=qOQ s (s.length+1) 0
def vS (s:List UInt8) (i:Nat):St:=⟨[.p (.str s),.dead,.p (.bool false),.p (.int .i64 i)]++List.replicate 17 .dead,[],[],0⟩
theorem qAG (s:List UInt8) (hs:s.length<=1000000000):AFn Tryz.prog G 48 [.str s] (.bool (qCD s)):=by
 refine AFn.intro tok Tryz.func48 (by kernel_rfl) rfl ?_;simp only[Tryz.f48,lC];refine iM tok [] (by intro C;conv=>lhs;simp) trivial ?_;refine iM tok [] (by intro C;conv=>lhs;simp) trivial ?_;refine AW.seq (AW.block ?_);refine AW.loop (α:=Nat × Nat) (fun a=>qCD s=qOQ s a.2 a.1/\a.1<=s.length/\s.length+1<=a.2+a.1) (fun a=>vS s a.1) (fun a=>s.length-a.1) (0,s.length+1) ⟨rfl,by simp,by simp⟩ ⟨by simp[vS],rfl,by simp[vS],by simp[vS]⟩ ?_;rintro⟨i,f⟩ ⟨hI,hi,hf⟩;simp only at hI hi hf;simp only[vS];refine AW.seq ?_;refine iM tok [] (by intro C;conv=>lhs;simp) trivial ?_;refine AW.cond (c := .tmp 9) (by conv=>lhs;simp) trivial ?_ ?_
 ·intro h1;simp at h1;obtain⟨f,rfl⟩:∃ f',f=f'+1:=⟨f-1,by omega⟩;have hl:=qWC s i h1;have hR:=zZS (G:=G) s i h1 hs;simp only[qOQ,h1,if_true]at hI;refine AW.skip (AW.block ?_);refine iM tok [.tup [.str s,.int .i64 i],.tup [.int .i64 (kD s i).1,.int .i64 (kD s i).2]] (by intro C;conv=>lhs;simp) (by simp[hR]) ?_;refine AW.seq ?_;refine iM tok [] (by intro C;conv=>lhs;simp) trivial ?_;refine AW.cond (c := .tmp 17) (by conv=>lhs;simp) trivial ?_ ?_
  ·intro h2;simp at h2;refine iM tok [] (by intro C;conv=>lhs;simp) trivial ?_;exact AW.ret ⟨.inr rfl,_,_,by(conv=>lhs;simp),trivial,by rw[hI];simp[h2]⟩
  intro h2;simp at h2;rw[bD h2]at hI;refine AW.skip ?_;refine AW.run tok [] (by intro C;conv=>lhs;simp) (by omega) ?_;exact⟨(i+(kD s i).2.toNat,f),⟨hI,by simp;omega,by simp;omega⟩,by simp;omega,by simp[vS];omega,rfl,by simp[vS],by simp[vS]⟩
 intro h1;simp at h1;refine AW.exit ?_;simp;refine iM tok [] (by intro C;conv=>lhs;simp) trivial ?_;exact AW.ret ⟨.inr rfl,_,_,by(conv=>lhs;simp),trivial,by
  rw[hI];cases f with
  | zero=>simp[qOQ]
  | succ f=>simp only[qOQ];rw[bD (by omega)];simp⟩
theorem zJP {s:List UInt8} {j:Nat} {c:UInt8} (h:s[j]?=some c):(⟨s.toArray⟩:ByteArray).get! j=c:=by
 have hj:=(bB.1 h).1;have hc:=(bB.1 h).2;show s.toArray[j]! = c
 rw[getElem!_pos s.toArray j (by simpa using hj)];simpa using hc
def wF (o:Option UInt8):Nat:=match o with
 | some c=>c.toNat
 | none=>0
def wW (o:Option UInt8):Bool:=match o with
 | some c=>c.toNat / 64 == 2
 | none=>false
def xS (b0:Nat) (o1 o2 o3:Option UInt8):Nat × Nat :=
 if b0<0x80 then(b0,1)
 else if b0 / 32 == 6 && wW o1 then
  if(b0 % 32) * 64+wF o1 % 64 >= 0x80 then((b0 % 32) * 64+wF o1 % 64,2) else(65533,1)
 else if b0 / 16 == 14 && wW o1 && wW o2 then
  if(b0 % 16) * 4096+(wF o1 % 64) * 64+wF o2 % 64 >= 0x800 && Utf8.valid ((b0 % 16) * 4096+(wF o1 % 64) * 64+wF o2 % 64:Nat) then((b0 % 16) * 4096+(wF o1 % 64) * 64+wF o2 % 64,3) else(65533,1)
 else if b0 / 8 == 30 && wW o1 && wW o2 && wW o3 then
  if(b0 % 8) * 262144+(wF o1 % 64) * 4096+(wF o2 % 64) * 64+wF o3 % 64 >= 0x10000 && Utf8.valid ((b0 % 8) * 262144+(wF o1 % 64) * 4096+(wF o2 % 64) * 64+wF o3 % 64:Nat) then
   ((b0 % 8) * 262144+(wF o1 % 64) * 4096+(wF o2 % 64) * 64+wF o3 % 64,4) else(65533,1)
 else(65533,1)
theorem zFF {s:List UInt8} {i:Nat} {b:UInt8} (h:s[i]?=some b):Utf8.decode ⟨s.toArray⟩ i=xS b.toNat s[i+1]? s[i+2]? s[i+3]?:=by
 have hsz:(⟨s.toArray⟩:ByteArray).size=s.length:=by simp[ByteArray.size]
 have cont:∀ k,(decide (i+k<(⟨s.toArray⟩:ByteArray).size) && ((⟨s.toArray⟩:ByteArray).get! (i+k)).toNat / 64 == 2)=wW s[i+k]?:=by
  intro k;rw[hsz];cases hk:s[i+k]? with
  | none =>
   have:¬ i+k<s.length:=by have:=List.getElem?_eq_none_iff.1 hk;omega
   simp[wW,this]
  | some c =>
   have:=(bB.1 hk).1;simp[wW,this,zJP hk]
 have byt:∀ k,wW s[i+k]?=true->((⟨s.toArray⟩:ByteArray).get! (i+k)).toNat=wF s[i+k]?:=by
  intro k hk;cases hc:s[i+k]? with
  | none=>rw[hc]at hk;cases hk
  | some c=>rw[zJP hc];rfl
 have b0:((⟨s.toArray⟩:ByteArray).get! (i+0)).toNat=b.toNat:=by rw[cH,zJP h]
 unfold Utf8.decode xS;simp only[cont,b0];by_cases h1:wW s[i+1]?=true
 ·rw[byt 1 h1];by_cases h2:wW s[i+2]?=true
  ·rw[byt 2 h2];by_cases h3:wW s[i+3]?=true
   ·rw[byt 3 h3];simp only[h1,h2,h3];rfl
   simp only[h1,h2,h3,fA,eC,if_false];rfl
  simp only[h1,h2,fA,gH,eC,if_false];rfl
 simp only[h1,fA,gH,eC,if_false];rfl
theorem zUA (low v:Int) (m k:Nat) (hk:k≠0) (hv:v=(m:Int)):(if(qSA low k (some v)).2=0 then((65533:Nat),(1:Nat)) else((qSA low k (some v)).1.toNat,(qSA low k (some v)).2.toNat)) =
  if(m:Int)<low\/(m:Int) > 1114111\/(55296<=(m:Int)/\(m:Int)<57344) then(65533,1) else(m,k):=by
 subst hv;unfold qSA;by_cases h:(m:Int)<low\/(m:Int) > 1114111\/(55296<=(m:Int)/\(m:Int)<57344)
 ·simp only[h,if_true]
 simp only[h,if_false];rw[bD (by omega)];rfl
theorem qJS (m:Nat):Utf8.valid (m:Int)=decide (¬ ((m:Int) > 1114111\/(55296<=(m:Int)/\(m:Int)<57344))):=by
 rw[eM];simp only[Utf8.valid,cX,bI,bY];omega
theorem isC (c:UInt8):(c.toNat / 64 == 2)=decide (128<=c.toNat/\c.toNat<192):=by rw[eM];simp only[dD,bY];omega
theorem yW (c:UInt8):wW (some c)=decide (128<=c.toNat/\c.toNat<192):=isC c
theorem vD {s:List UInt8} {i r j:Nat} {v:Int} {c:UInt8} (h:s[i+j]?=some c) (hc:128<=c.toNat/\c.toNat<192):uH s i (r+1) j v=uH s i r (j+1) (64 * v+c.toNat-128):=by
 simp only[uH,h];rw[bD (by omega)]
theorem qEH {s:List UInt8} {i r j:Nat} {v:Int} {c:UInt8} (h:s[i+j]?=some c) (hc:¬ (128<=c.toNat/\c.toNat<192)):uH s i (r+1) j v=none:=by
 simp only[uH,h];rw[bE (by omega)]
theorem vK {n:Nat} {o1 o2 o3:Option UInt8} (h0:¬ n<128) (h:(n / 32=6->wW o1=true->n % 32 * 64+wF o1 % 64<128)/\(n / 16=14->wW o1=true->wW o2=false)/\(n / 8=30->wW o1=true->wW o2=true->wW o3=true->1114111<n % 8 * 262144)) :
  xS n o1 o2 o3=(65533,1):=by
 obtain⟨h1,h2,h3⟩:=h;unfold xS;rw[bD h0];by_cases a:n / 32=6
 ·have b:¬ n / 16=14:=by omega
  have c:¬ n / 8=30:=by omega
  cases hc:wW o1 with
  | true=>simp only[a,beq_self_eq_true,Bool.and_self,if_true];rw[bD (by have:=h1 a hc;omega)]
  | false=>simp[a,b,c]
 by_cases b:n / 16=14
 ·have c:¬ n / 8=30:=by omega
  cases hc:wW o1 with
  | true=>simp[a,b,c,h2 b hc]
  | false=>simp[a,b,c]
 by_cases c:n / 8=30
 ·cases hc1:wW o1 with
  | false=>simp[a,b]
  | true =>
   cases hc2:wW o2 with
   | false=>simp[a,b]
   | true =>
    cases hc3:wW o3 with
    | false=>simp[a,b]
    | true =>
     have hb:=h3 c hc1 hc2 hc3;simp only[a,b,c,dD,beq_self_eq_true,gH,Bool.and_self,gP,if_false,if_true,eC];rw[bD];rw[qJS];simp only[bI,bY];omega
 simp[a,b,c]
theorem wCR {n:Nat} {c:UInt8} {o2 o3:Option UInt8} (h0:¬ n<128) (hn:n / 32=6) (hc:128<=c.toNat/\c.toNat<192) :
  xS n (some c) o2 o3=if n % 32 * 64+c.toNat % 64 >= 128 then(n % 32 * 64+c.toNat % 64,2) else(65533,1):=by
 have h1:wW (some c)=true:=by rw[yW];exact gY hc
 unfold xS;rw[bD h0,bE (by rw[h1,hn];rfl)];rfl
theorem wCQ {n:Nat} {c d:UInt8} {o3:Option UInt8} (h0:¬ n<128) (hn:n / 16=14) (hc:128<=c.toNat/\c.toNat<192) (hd:128<=d.toNat/\d.toNat<192) {m:Nat} (hm:m=n % 16 * 4096+c.toNat % 64 * 64+d.toNat % 64) :
  xS n (some c) (some d) o3=if(m:Int)<2048\/(m:Int) > 1114111\/(55296<=(m:Int)/\(m:Int)<57344) then(65533,1) else(m,3):=by
 have h1:wW (some c)=true:=by rw[yW];exact gY hc
 have h2:wW (some d)=true:=by rw[yW];exact gY hd
 have e1:¬ n / 32=6:=by omega
 unfold xS;rw[bD h0,bD (by rw[h1];simp[e1]),bE (by rw[h1,h2,hn];rfl)];simp only[wF,<-hm,qJS];clear hm
 by_cases hb:(m:Int)<2048\/(m:Int) > 1114111\/55296<=(m:Int)/\(m:Int)<57344
 ·rw[bE hb,bD];simp only[bI,bY];omega
 rw[bD hb,bE];simp only[bI,bY];omega
theorem wCP {n:Nat} {c d e:UInt8} (h0:¬ n<128) (hn:n / 8=30) (hc:128<=c.toNat/\c.toNat<192) (hd:128<=d.toNat/\d.toNat<192) (he:128<=e.toNat/\e.toNat<192) {m:Nat}
  (hm:m=n % 8 * 262144+c.toNat % 64 * 4096+d.toNat % 64 * 64+e.toNat % 64) :
  xS n (some c) (some d) (some e)=if(m:Int)<65536\/(m:Int) > 1114111\/(55296<=(m:Int)/\(m:Int)<57344) then(65533,1) else(m,4):=by
 have h1:wW (some c)=true:=by rw[yW];exact gY hc
 have h2:wW (some d)=true:=by rw[yW];exact gY hd
 have h3:wW (some e)=true:=by rw[yW];exact gY he
 have e1:¬ n / 32=6:=by omega
 have e2:¬ n / 16=14:=by omega
 unfold xS;rw[bD h0,bD (by rw[h1];simp[e1]),bD (by rw[h1,h2];simp[e2]),bE (by rw[h1,h2,h3,hn];rfl)];simp only[wF,<-hm,qJS];clear hm
 by_cases hb:(m:Int)<65536\/(m:Int) > 1114111\/55296<=(m:Int)/\(m:Int)<57344
 ·rw[bE hb,bD];simp only[bI,bY];omega
 rw[bD hb,bE];simp only[bI,bY];omega
theorem zCV {s:List UInt8} {i:Nat} (hi:i<s.length):Utf8.decode ⟨s.toArray⟩ i=if(kD s i).2=0 then(65533,1) else((kD s i).1.toNat,(kD s i).2.toNat):=by
 obtain⟨b,hb⟩:∃ b,s[i]?=some b:=⟨s[i],by simp[hi]⟩;rw[zFF hb];have hblt:b.toNat<256:=b.toNat_lt;have hr:kD s i=if(b.toNat:Int)<128 then((b.toNat:Int),1) else jZ s i (jQ b.toNat):=by simp only[kD,hb]
 have in1:∀ k,s[i+k]?=none↔s.length<=i+k:=fun k=>List.getElem?_eq_none_iff;have has:∀ k,i+k<s.length->∃ c,s[i+k]?=some c:=fun k hk=>⟨s[i+k],by simp[hk]⟩;generalize b.toNat=n at hblt hr;by_cases h0:n<128
 ·rw[bE (by omega)]at hr;rw[hr];simp[xS,h0]
 rw[bD (by omega)]at hr;rw[hr];clear hr
 have tail0:∀ x:Nat × Int × Int,(x.1=0\/s.length<i+x.1)->(if(jZ s i x).2=0 then((65533:Nat),(1:Nat)) else((jZ s i x).1.toNat,(jZ s i x).2.toNat))=(65533,1):=by
  intro x hx;unfold jZ;rw[bE hx];rfl
 have tailn:∀ x:Nat × Int × Int, ¬ (x.1=0\/s.length<i+x.1)->uH s i (x.1-1) 1 x.2.2=none->(if(jZ s i x).2=0 then((65533:Nat),(1:Nat)) else((jZ s i x).1.toNat,(jZ s i x).2.toNat))=(65533,1):=by
  intro x hx hn;unfold jZ;rw[bD hx,hn];rfl
 have tails:∀ (x:Nat × Int × Int) (v:Int) (m:Nat), ¬ (x.1=0\/s.length<i+x.1)->uH s i (x.1-1) 1 x.2.2=some v->v=m->(if(jZ s i x).2=0 then((65533:Nat),(1:Nat)) else((jZ s i x).1.toNat,(jZ s i x).2.toNat)) =
   if(m:Int)<x.2.1\/(m:Int) > 1114111\/(55296<=(m:Int)/\(m:Int)<57344) then(65533,1) else(m,x.1):=by
  intro x v m hx hl hv;unfold jZ;rw[bD hx,hl];exact zUA _ _ _ _ (by omega) hv
 by_cases hA:194<=n/\n<224
 ·have hrc:jQ n=(2,128,(n:Int)-192):=by unfold jQ;rw[bE (by omega)]
  rw[hrc];by_cases hl:s.length<i+2
  ·rw[tail0 _ (Or.inr hl)];refine vK h0 ⟨fun _ h => ?_,fun h=>by omega,fun h=>by omega⟩;rw[(in1 1).2 (by omega)]at h;cases h
  obtain⟨c,h1⟩:=has 1 (by omega);rw[h1];by_cases hc:128<=c.toNat/\c.toNat<192
  ·rw[tails (2,128,(n:Int)-192) _ (n % 32 * 64+c.toNat % 64) (by simp;omega) (by rw[show(2:Nat)-1=0+1 from rfl,vD h1 hc];rfl) (by simp only[];omega)];rw[wCR h0 (by omega) hc,bE (by omega),bD (by simp only[];omega)]
  rw[tailn _ (by simp;omega) (by rw[show((2:Nat),(128:Int),(n:Int)-192).1-1=0+1 from rfl,qEH h1 hc])];refine vK h0 ⟨fun _ h => ?_,fun h=>by omega,fun h=>by omega⟩;rw[yW]at h;exact(hc (eT h)).elim
 by_cases hB:224<=n/\n<240
 ·have hrc:jQ n=(3,2048,(n:Int)-224):=by unfold jQ;rw[bD (by omega),bE (by omega)]
  rw[hrc];by_cases hl:s.length<i+3
  ·rw[tail0 _ (Or.inr hl)];refine vK h0 ⟨fun h=>by omega,fun _ _ => ?_,fun h=>by omega⟩;rw[(in1 2).2 (by omega)];rfl
  obtain⟨c,h1⟩:=has 1 (by omega);obtain⟨d,h2⟩:=has 2 (by omega);rw[h1,h2];by_cases hc:128<=c.toNat/\c.toNat<192
  ·by_cases hd:128<=d.toNat/\d.toNat<192
   ·rw[tails (3,2048,(n:Int)-224) _ (n % 16 * 4096+c.toNat % 64 * 64+d.toNat % 64) (by simp;omega) (by rw[show(3:Nat)-1=1+1 from rfl,vD h1 hc,show(1:Nat)=0+1 from rfl,vD h2 hd];rfl) (by simp only[];omega)];exact wCQ h0 (by omega) hc hd rfl
   rw[tailn _ (by simp;omega) (by rw[show((3:Nat),(2048:Int),(n:Int)-224).1-1=1+1 from rfl,vD h1 hc,show(1:Nat)=0+1 from rfl,qEH h2 hd])];refine vK h0 ⟨fun h=>by omega,fun _ _ => ?_,fun h=>by omega⟩;rw[yW];exact decide_eq_false hd
  rw[tailn _ (by simp;omega) (by rw[show((3:Nat),(2048:Int),(n:Int)-224).1-1=1+1 from rfl,qEH h1 hc])];refine vK h0 ⟨fun h=>by omega,fun _ h => ?_,fun h=>by omega⟩;rw[yW]at h;exact(hc (eT h)).elim
 by_cases hC:240<=n/\n<245
 ·have hrc:jQ n=(4,65536,(n:Int)-240):=by unfold jQ;rw[bD (by omega),bD (by omega),bE (by omega)]
  rw[hrc];by_cases hl:s.length<i+4
  ·rw[tail0 _ (Or.inr hl)];refine vK h0 ⟨fun h=>by omega,fun h=>by omega,fun _ _ _ h => ?_⟩;rw[(in1 3).2 (by omega)]at h;cases h
  obtain⟨c,h1⟩:=has 1 (by omega);obtain⟨d,h2⟩:=has 2 (by omega);obtain⟨e,h3⟩:=has 3 (by omega);rw[h1,h2,h3];by_cases hc:128<=c.toNat/\c.toNat<192
  ·by_cases hd:128<=d.toNat/\d.toNat<192
   ·by_cases he:128<=e.toNat/\e.toNat<192
    ·rw[tails (4,65536,(n:Int)-240) _ (n % 8 * 262144+c.toNat % 64 * 4096+d.toNat % 64 * 64+e.toNat % 64) (by simp;omega)
      (by rw[show(4:Nat)-1=2+1 from rfl,vD h1 hc,show(2:Nat)=1+1 from rfl,vD h2 hd,show(1:Nat)=0+1 from rfl,vD h3 he];rfl) (by simp only[];omega)]
     exact wCP h0 (by omega) hc hd he rfl
    rw[tailn _ (by simp;omega) (by rw[show((4:Nat),(65536:Int),(n:Int)-240).1-1=2+1 from rfl,vD h1 hc,show(2:Nat)=1+1 from rfl,vD h2 hd,show(1:Nat)=0+1 from rfl,qEH h3 he])];refine vK h0 ⟨fun h=>by omega,fun h=>by omega,fun _ _ _ h => ?_⟩;rw[yW]at h;exact(he (eT h)).elim
   rw[tailn _ (by simp;omega) (by rw[show((4:Nat),(65536:Int),(n:Int)-240).1-1=2+1 from rfl,vD h1 hc,show(2:Nat)=1+1 from rfl,qEH h2 hd])];refine vK h0 ⟨fun h=>by omega,fun h=>by omega,fun _ _ h => ?_⟩;rw[yW]at h;exact(hd (eT h)).elim
  rw[tailn _ (by simp;omega) (by rw[show((4:Nat),(65536:Int),(n:Int)-240).1-1=2+1 from rfl,qEH h1 hc])];refine vK h0 ⟨fun h=>by omega,fun h=>by omega,fun _ h => ?_⟩;rw[yW]at h;exact(hc (eT h)).elim
 have hrc:jQ n=(0,0,0):=by unfold jQ;rw[bD (by omega),bD (by omega),bD (by omega)]
 rw[hrc,tail0 _ (.inl rfl)];refine vK h0 ⟨fun h _ => ?_,fun h=>by omega,fun h _ _ _=>by omega⟩;have:wF s[i+1]? % 64<64:=eQ _ (by omega);omega
theorem zHF (s:List UInt8) (i:Nat):kD s i=kD (s.drop i) 0:=by
 have h:∀ k,(s.drop i)[k]?=s[i+k]?:=fun k=>by rw[bZ]
 have hl:∀ (f:Nat) (j:Nat) (v:Int),uH s i f j v=uH (s.drop i) 0 f j v:=by
  intro f;induction f with
  | zero=>intro j v;rfl
  | succ f ih =>
   intro j v;simp only[uH,dK,h,ih]
 unfold kD;rw[h 0,cH];cases hb:s[i]? with
 | none=>rfl
 | some b =>
  have hi:=(bB.1 hb).1;simp only[jZ,hl,bQ];have e:(s.length<i+(jQ ↑b.toNat).1)↔(s.length-i<0+(jQ ↑b.toNat).1):=by omega
  simp only[e]
theorem qED (s:List UInt8):Lib.validD s=qCD s:=by
 have key:∀ (n:Nat) (s:List UInt8) (i f:Nat),n=s.length-i->i<=s.length->s.length+1<=f+i->qOQ s f i=Lib.validD (s.drop i):=by
  intro n;induction n using Nat.strongRecOn with
  | _ n ih =>
   intro s i f hn hi hf;cases f with
   | zero=>omega
   | succ f =>
    simp only[qOQ];by_cases hlt:i<s.length
    ·rw[bE hlt];have hne:s.drop i≠[]:=by simp;omega
     rw[Lib.validD_step _ hne];have hd:=zCV (s:=s.drop i) (i:=0) (by simp;omega);rw[<-zHF]at hd;have hl:=qWC s i hlt;have hdl:Lib.decodeL (s.drop i)=Utf8.decode ⟨(s.drop i).toArray⟩ 0:=rfl;rw[hdl,hd];by_cases h0:(kD s i).2=0
     ·rw[bE h0,bE h0,bE ⟨rfl,rfl⟩]
     rw[bD h0,bD h0];have hne2:¬ ((kD s i).1.toNat=65533/\(kD s i).2.toNat=1):=by
      rintro⟨h1,h2⟩;have:(kD s i).1=65533:=by omega
      have h3:(kD s i).2=1:=by omega
      obtain⟨b,hb⟩:∃ b,s[i]?=some b:=⟨s[i],by simp[hlt]⟩;have hb256:b.toNat<256:=b.toNat_lt;have hr:kD s i=if(b.toNat:Int)<128 then((b.toNat:Int),1) else jZ s i (jQ b.toNat):=by simp only[kD,hb]
      rw[hr]at this h3;split at this
      ·simp only[]at this;omega
      rename_i hge;rw[bD hge]at h3;unfold jZ at h3;split at h3
      ·simp at h3
      rename_i hx;have:(jQ b.toNat).1=0\/2<=(jQ b.toNat).1:=by
       unfold jQ;repeat' split
       all_goals simp
      unfold qSA at h3;split at h3
      ·simp at h3
      split at h3
      ·simp at h3
      simp only[]at h3;omega
     simp only[];rw[bD hne2,dG];exact ih _ (by omega) s (i+(kD s i).2.toNat) f rfl (by omega) (by omega)
    rw[bD hlt,dQ (by omega)];rfl
 exact(key _ s 0 (s.length+1) rfl (by omega) (by omega)).symm
def xW (s:List UInt8):List UInt8:=s.take 100
theorem zCQ (s:List UInt8):AFn Tryz.prog G 27 [.str s] (.str (xW s)):=by
 refine AFn.introU tok Tryz.func27 (by kernel_rfl) rfl rfl ?_;simp only[Tryz.f27,qG,bA,bC];refine rgn [] [[0]] ?_;refine op3 ?_;refine qA (AW.seq (rgn [] [[],[],[0,5]] ?_));iterate 3 refine op3 ?_
 refine qA (cnd ?_ ?_)
 ·intro h5;try simp at h5
  refine rgn [] [[],[],[2]] ?_;iterate 3 refine op3 ?_
  refine qA ?_;exact AW.ret (qI (k:=by simp[xW]))
 intro h5;try simp at h5
 refine AW.skip (rgn [] [[],[2]] ?_);iterate 2 refine op3 ?_
 refine qA ?_;exact AW.ret (qI (k:=by simp[xW];rw[bK (by omega)]))
def qEC (s:List UInt8):List UInt8:=if qCD (xW s)=true then xW s else[97]
theorem qKC (s:List UInt8):(xW s).length<=100:=by simp[xW];omega
theorem qVI (s:List UInt8):(qEC s).length<=100:=by
 unfold qEC;split
 ·exact qKC s
 simp
theorem zKB (s:List UInt8):AFn Tryz.prog G 28 [.str s] (.str (qEC s)):=by
 refine AFn.introU tok Tryz.func28 (by kernel_rfl) rfl rfl ?_;simp only[Tryz.f28,qG,bA,bC];have h1:=zCQ (G:=G) s;have hl:=qKC s;have h2:=qAG (G:=G) (xW s) (by omega);refine rgn [] [[0]] ?_;refine op3 ?_;refine qA (rgn [.nilp,.str (xW s)] [[],[],[0]] ?_);iterate 3 refine op3 ?_ (hv:=by first|exact True.intro|(simp[h1];done)|omega|simp)
 refine qA (AW.seq (rgn [.nilp,.bool (qCD (xW s))] [[],[],[0,7]] ?_));iterate 3 refine op3 ?_ (hv:=by first|exact True.intro|(simp[h2];done)|omega|simp)
 refine qA (cnd ?_ ?_)
 ·intro h7;try simp at h7
  refine rgn [] [[]] ?_;refine op3 ?_;refine qA ?_;exact AW.ret (qI (k:=by simp[qEC,h7]))
 intro h7;try simp at h7
 refine AW.skip (rgn [] [[],[2]] ?_);iterate 2 refine op3 ?_
 refine qA ?_;exact AW.ret (qI (k:=by simp[qEC,h7]))
def qCR (n:Nat):List UInt8:=List.replicate n 107
def vT (l:List (List UInt8)) (i:Nat):List UInt8:=if h:i<l.length then qEC l[i] else qCR (i-l.length+1)
def qOM (out:List (List UInt8)) (s:List UInt8):List (List UInt8):=if s∈out then out else out++[s]
def uI (l:List (List UInt8)) (many:Nat):Nat->Nat->List (List UInt8)->List (List UInt8)
 | 0,_,out=>out
 | f+1,i,out=>if out.length<many then uI l many f (i+1) (qOM out (vT l i)) else out
def qHJ (l:List (List UInt8)) (many:Nat):List (List UInt8):=uI l many (l.length+many+1) 0 []
theorem zDO {α:Type} [DecidableEq α]:∀ {l m:List α},l.Nodup->(∀ x∈l,x∈m)->l.length<=m.length
 | [],m,_,_=>by simp
 | a::l,m,hn,hs=>by
  have ha:=hs a (by simp);have hn':=fG.1 hn;have:=zDO (l:=l) (m:=m.erase a) hn'.2 fun x hx=>(List.mem_erase_of_ne (by rintro rfl;exact hn'.1 hx)).2 (hs x (by simp[hx]));rw[List.length_erase_of_mem ha]at this;have:=List.length_pos_of_mem ha;simp;omega
theorem zLL {out:List (List UInt8)} {n:Nat} (h:∀ t,1<=t->t<=n->qCR t∈out):n<=out.length:=by
 have hs:((List.range n).map fun t=>qCR (t+1)).Nodup:=by
  unfold List.Nodup;refine List.Pairwise.map _ (fun a b hab => ?_) List.nodup_range;intro he;have:=congrArg List.length he;simp[qCR]at this;exact hab this
 have:=zDO hs (m:=out) (by
  intro x hx;obtain⟨t,ht,rfl⟩:=cO.1 hx;simp at ht;exact h _ (by omega) (by omega))
 simpa using this
theorem zDS {l:List (List UInt8)} {many:Nat} {out:List (List UInt8)} (h:¬ out.length<many):∀ f i,uI l many f i out=out
 | 0,_=>rfl
 | f+1,i=>by simp only[uI];rw[bD h]
theorem zSX (l:List (List UInt8)) (many:Nat) (hl:l.length<=140737488351232) (hm:many<=100000):AFn Tryz.prog G 29 [.sl 1 (l.map PD.str),.int .i64 many] (.sl 1 ((qHJ l many).map PD.str)):=by
 refine AFn.introU tok Tryz.func29 (by kernel_rfl) rfl rfl ?_;simp only[Tryz.f29,qG,bA,bC];have hw:=fun s=>zKB (G:=G) s;refine rgn [] [[0,1]] ?_;refine op3 ?_;refine qA (rgn [] [[],[0,1,5]] ?_);iterate 2 refine op3 ?_
 refine qA (rgn [] [[]] ?_);refine op3 ?_;refine qA (AW.seq (rgn [] [[]] ?_));refine op3 ?_;refine qA (AW.block ?_);refine AW.loop (α:=Nat × List (List UInt8)) (fun a=>a.1<=l.length+many/\qHJ l many=uI l many (l.length+many+1-a.1) a.1 a.2/\a.2.length<=many/\(∀ t,1<=t->t+l.length<=a.1->qCR t∈a.2)) (fun a=>⟨qZ 52 [(0,.p (.sl 1 (l.map PD.str))),(1,.p (.int .i64 many)),(5,.ms 11),(6,.p (.str (qCR (a.1-l.length+1)))),(7,.p (.int .i64 a.1))],[],[(11,.row 9 1 (a.2.map PD.str))],0⟩) (fun a=>l.length+many-a.1) ((0,[])) ⟨by simp,rfl,by simp,by intro t h1 h2;simp at h2;omega⟩ ⟨qE (by simp[qCR]),rfl,by simp,by simp⟩ ?_;rintro⟨i,out⟩ ⟨hi,hn,ho,hk⟩;simp only at hi hn ho hk;have hkl:i-l.length<=out.length:=zLL fun t h1 h2=>hk t h1 (by omega);refine AW.seq (rgn [] [[],[],[],[0,1,5,6,7,15]] ?_);iterate 4 refine op3 ?_
 refine qA (cnd ?_ ?_)
 ·intro h15;try simp at h15
  have hstep:qHJ l many=uI l many (l.length+many+1-(i+1)) (i+1) (qOM out (vT l i)):=by
   rw[hn,show l.length+many+1-i=(l.length+many+1-(i+1))+1 by omega];simp only[uI];rw[bE h15]
  refine AW.skip (AW.seq (AW.block (rgn [] [[],[0,1,5,6,7,8]] ?_)));iterate 2 refine op3 ?_
  refine qA ?_;refine AW.join (α:=Unit) (fun _=>True) (fun a=>⟨qZ 52 [(0,.p (.sl 1 (l.map PD.str))),(1,.p (.int .i64 many)),(5,.ms 11),(6,.p (.str (qCR (i+1-l.length+1)))),(7,.p (.int .i64 i)),(8,.p (.str (vT l i)))],[],[(11,.row 9 1 (out.map PD.str))],0⟩) ?_ ?_
  ·
   refine rgn [] [[],[],[],[0,1,5,6,7,8,22]] ?_;iterate 4 refine op3 ?_
   refine qA (cnd ?_ ?_)
   ·intro h22;try simp at h22
    have hs:vT l i=qEC l[i]:=by simp[vT,h22]
    have hsl:=qVI l[i];refine rgz [.str l[i],.nilp,.str (qEC l[i])] [[],[],[],[],[0,1,5,6,7,27],[0,1,5,6,7,8]] ?_;iterate 6 refine op3 ?_ (hv:=by first|exact True.intro|(simp[hw,h22];done)|omega|simp)
    refine qA ?_;exact⟨(),trivial,qE (by simp[hs,show i+1-l.length=i-l.length from by omega]),rfl,by simp[hs,show i+1-l.length=i-l.length from by omega],by simp[hs,show i+1-l.length=i-l.length from by omega]⟩
   intro h22;try simp at h22
   have hs:vT l i=qCR (i-l.length+1):=by simp[vT];omega
   refine rgz [] [[],[],[0,1,5,6,7,8]] ?_;iterate 3 refine op3 ?_ (hv:=by first|exact True.intro|(simp[qCR];omega;done)|omega|simp)
   refine qA ?_;exact⟨(),trivial,qE (by simp[hs,show i+1-l.length+1=i-l.length+1+1 from by omega,qCR,eD]),rfl,by simp[hs,show i+1-l.length+1=i-l.length+1+1 from by omega,qCR,eD],by simp[hs,show i+1-l.length+1=i-l.length+1+1 from by omega,qCR,eD]⟩
  ·
   rintro a hI;generalize hns:vT l i=s at *;have hkay:∀ t,1<=t->t+l.length<=i+1->qCR t∈qOM out s:=by
    intro t h1 h2;by_cases h3:t+l.length<=i
    ·have:=hk t h1 h3;unfold qOM;split
     ·exact this
     simp[this]
    have:qCR t=s:=by rw[<-hns];simp only[vT];rw[dif_neg (by omega)];congr 1;omega
    rw[this];unfold qOM;split
    ·assumption
    simp
   refine rgn [] [[]] ?_;refine op3 ?_;refine qA (AW.seq (rgn [] [[]] ?_));refine op3 ?_;refine qA (AW.block ?_);refine AW.loop (α:=Nat) (fun k=>k<=out.length) (fun k=>⟨qZ 52 [(0,.p (.sl 1 (l.map PD.str))),(1,.p (.int .i64 many)),(5,.ms 11),(6,.p (.str (qCR (i+1-l.length+1)))),(7,.p (.int .i64 i)),(8,.p (.str s)),(9,.p (.bool (decide (s∈out.take k)))),(10,.p (.int .i64 k))],[],[(11,.row 9 1 (out.map PD.str))],0⟩) (fun k=>out.length-k) (0) (by omega) ⟨qE (by simp),rfl,by simp,by simp⟩ ?_;rintro k hko;refine AW.seq (rgn [] [[],[],[],[0,1,5,6,7,8,9,10,33]] ?_);iterate 4 refine op3 ?_
   refine qA (cnd ?_ ?_)
   ·intro h33;try simp at h33
    have hsn:(decide (s∈out.take k) || decide (out[k]=s))=decide (s∈out.take (k+1)):=by
     rw[gA h33,eM];simp only[cX,bY,bL,cG];exact⟨fun h=>h.imp id Eq.symm,fun h=>h.imp id Eq.symm⟩
    refine AW.skip (AW.seq (AW.block (rgz [.str out[k]] [[],[],[],[],[0,1,5,6,7,8,10,37,40],[],[],[],[0,1,5,6,7,8,10,44],[0,1,5,6,7,8,9,10]] ?_)));iterate 2 refine op3 ?_ (hv:=by first|exact True.intro|(simp[h33];done)|omega|simp)
    iterate 6 refine op4 ?_ (hv:=by first|exact True.intro|(simp[h33];done)|omega|simp)
    iterate 2 refine op3 ?_ (hv:=by first|exact True.intro|(simp[h33];done)|omega|simp)
    refine qA (rgz [] [[],[],[0,1,5,6,7,8,9,10]] ?_);iterate 3 refine op3 ?_
    refine qA ?_;exact⟨k+1,by omega,by omega,qE (by simp[hsn]),rfl,by simp[hsn],by simp[hsn]⟩
   intro h33;try simp at h33
   have hkk:k=out.length:=by omega
   subst hkk;simp only[dW];refine AW.exit ?_;simp;refine rgn [] [[],[0,1,5,6,7,8,46]] ?_;iterate 2 refine op3 ?_
   refine qA (cnd ?_ ?_)
   ·intro h46;try simp at h46
    have had:qOM out s=out++[s]:=by unfold qOM;rw[bD h46]
    rw[had]at hstep hkay;refine rgz [.str s] [[],[],[],[0,1,6,7,50],[0,1,5,6,7]] ?_;iterate 5 refine op3 ?_
    refine qA (rgz [] [[],[],[0,1,5,6,7]] ?_);iterate 3 refine op3 ?_
    refine qA ?_;exact⟨i+1,out++[s],⟨by omega,hstep,by simp;omega,hkay⟩,by omega,qE (by simp),rfl,by simp,by simp⟩
   intro h46;try simp at h46
   have had:qOM out s=out:=by unfold qOM;rw[bE h46]
   rw[had]at hstep hkay;refine AW.skip (rgz [] [[],[],[0,1,5,6,7]] ?_);iterate 3 refine op3 ?_
   refine qA ?_;exact⟨i+1,out,⟨by omega,hstep,by omega,hkay⟩,by omega,qE (by simp),rfl,by simp,by simp⟩
 intro h15;try simp at h15
 have hn2:qHJ l many=out:=by rw[hn];exact zDS (by omega) _ _
 refine AW.exit ?_;simp;refine rgn [] [[],[4]] ?_;iterate 2 refine op3 ?_
 refine qA ?_;exact AW.ret (qI (k:=by simp[hn2]))
theorem qSE (s:List UInt8):AFn Tryz.prog G 50 [.str s] (.bool (kJ s)):=by
 refine AFn.introU tok Tryz.func50 (by kernel_rfl) rfl rfl ?_;simp only[Tryz.f50,qG,bA,bC];refine rgn [] [[0]] ?_;refine op3 ?_;refine qA (rgn [.nilp,.bool (Lib.validD s)] [[],[],[],[],[6,7],[],[],[2]] ?_);iterate 4 refine op3 ?_ (hv:=by first|exact True.intro|(((repeat' (first|with_reducible apply And.intro|intro _)) <;> first|exact(by rw[qED];exact qAG s (by omega))|assumption|omega|contradiction|simp_all);done)|omega|simp)
 iterate 2 refine op4 ?_ (hv:=by first|exact True.intro|(((repeat' (first|with_reducible apply And.intro|intro _)) <;> first|exact(by rw[qED];exact qAG s (by omega))|assumption|omega|contradiction|simp_all);done)|omega|simp)
 iterate 2 refine op3 ?_ (hv:=by first|exact True.intro|(((repeat' (first|with_reducible apply And.intro|intro _)) <;> first|exact(by rw[qED];exact qAG s (by omega))|assumption|omega|contradiction|simp_all);done)|omega|simp)
 refine qA ?_;exact AW.ret (qI (k:=by simp[kJ]))
theorem zHI (l:List (List UInt8)):AFn Tryz.prog G 51 [.sl 1 (l.map PD.str)] (.bool (xU l)):=by
 refine AFn.introU tok Tryz.func51 (by kernel_rfl) rfl rfl ?_;simp only[Tryz.f51,qG,bA,bC];refine rgn [] [[0]] ?_;refine op3 ?_;refine qA (AW.seq (rgn [] [[]] ?_));refine op3 ?_;refine qA (AW.block ?_);refine nE (i:=0) rfl (by decide) ?_;intro hlen;simp at hlen;refine AW.loop (α:=Nat) (fun k=>k<=l.length/\xU (l.take k)=true) (fun k=>⟨qZ 31 [(0,.p (.sl 1 (l.map PD.str))),(3,.p (.int .i64 k))],[],[],0⟩) (fun k=>l.length-k) (0) ⟨by omega,rfl⟩ ⟨qE (by simp),rfl,by simp,by simp⟩ ?_;rintro k ⟨hk,hall⟩;refine AW.seq (rgn [] [[],[],[],[0,3,8]] ?_);iterate 4 refine op3 ?_
 refine qA (cnd ?_ ?_)
 ·intro h8;try simp at h8
  obtain⟨s,hs⟩:∃ s,l[k]?=some s:=⟨l[k],by simp[h8]⟩;refine AW.skip (AW.seq (AW.block (AW.seq (rgn [.str s,.nilp,.bool (kJ s)] [[],[],[],[],[0,3,15],[0,3,16]] ?_))));iterate 6 refine op3 ?_ (hv:=by first|exact True.intro|(((repeat' (first|with_reducible apply And.intro|intro _)) <;> first|exact(qSE s)|exact(⟨_,hs,rfl⟩)|assumption|omega|contradiction|simp_all);done)|omega|simp)
  refine qA (cnd ?_ ?_)
  ·intro h16;try simp at h16
   have hb:xU l=false:=qXB hs (.inl (by simpa using h16));refine rgn [] [[]] ?_;refine op3 ?_;refine qA ?_;exact AW.ret (qI (k:=by simp[hb]))
  intro h16;try simp at h16
  refine AW.skip (rgn [] [[]] ?_);refine op3 ?_;refine qA (AW.block ?_);refine AW.loop (α:=Nat) (fun j=>j<=k/\s ∉ l.take j) (fun j=>⟨qZ 31 [(0,.p (.sl 1 (l.map PD.str))),(3,.p (.int .i64 k)),(4,.p (.int .i64 j))],[],[],0⟩) (fun j=>k-j) (0) ⟨by omega,by simp⟩ ⟨qE (by simp),rfl,by simp,by simp⟩ ?_;rintro j ⟨hj,hno⟩;refine AW.seq (rgn [] [[],[],[0,3,4,19]] ?_);iterate 3 refine op3 ?_
  refine qA (cnd ?_ ?_)
  ·intro h19;try simp at h19
   obtain⟨x,hx⟩:∃ x,l[j]?=some x:=⟨l[j],by simp[show j<l.length by omega]⟩;refine AW.skip (AW.seq (AW.block ?_));refine iL tok mixed [0,3,4,30] 9 [[0],[4],[22,23],[24],[0],[3],[26,27],[28],[25,29]] [.str x,.str s] [] (by kernel_rfl) (by intro C;conv=>lhs;simp) (by simp[hs,hx]) (by simp[Sm.sum,Sm.foot,Sm.tch,Sm.refs];kernel_rfl) (by intro C;conv=>lhs;simp) (by first|exact True.intro|omega|simp) ?_;refine cnd ?_ ?_
   ·intro h30;try simp at h30
    have hb:xU l=false:=qXB hs (.inr (by rw[<-h30];exact bH (i:=j) (by rw[bW];simp[h19,hx])));refine rgn [] [[]] ?_;refine op3 ?_;refine qA ?_;exact AW.ret (qI (k:=by simp[hb]))
   intro h30;try simp at h30
   refine AW.skip (rgz [] [[],[],[0,3,4]] ?_);iterate 3 refine op3 ?_
   refine qA ?_;exact⟨j+1,⟨by omega,by rw[bX,hx];simp;exact⟨hno,fun e=>h30 e.symm⟩⟩,by omega,qE (by simp),rfl,by simp,by simp⟩
  intro h19;try simp at h19
  have hjk:j=k:=by omega
  subst hjk;refine AW.exit ?_;simp;refine rgz [] [[],[],[0,3]] ?_;iterate 3 refine op3 ?_
  refine qA ?_;exact⟨j+1,⟨by omega,zIE hs hall h16 hno⟩,by omega,qE (by simp),rfl,by simp,by simp⟩
 intro h8;try simp at h8
 rw[bK h8]at hall;refine AW.exit ?_;simp;refine rgn [] [[]] ?_;refine op3 ?_;refine qA ?_;exact AW.ret (qI (k:=by simp[hall]))
theorem zPH (l:List Val) (g:FuncId) (p:Val->Bool) (hg:∀ v∈l,AFn Tryz.prog G g [v.enc] (.bool (p v))):AFn Tryz.prog G 156 [.sl 9 (l.map Val.enc),.fn g] (.int .i64 (match l.findIdx? p with|some i=>(i:Int)|none => -1)):=by
 refine AFn.introU tok Tryz.func156 (by kernel_rfl) rfl rfl ?_;simp only[Tryz.f156,qG,bA,bC];refine rgn [] [[0,1]] ?_;refine op3 ?_;refine qA (AW.seq (rgn [] [[],[],[0,1,7,8]] ?_));iterate 3 refine op3 ?_
 refine qA (AW.block ?_);refine lG (i:=7) rfl (by decide) ?_;intro hlen;simp at hlen;refine AW.loop (α:=Nat) (fun k=>k<=l.length/\(l.take k).all (fun v => !p v)=true) (fun k=>⟨qZ 19 [(0,.p (.sl 9 (l.map Val.enc))),(1,.p (.fn g)),(7,.p (.int .i64 l.length)),(8,.p (.int .i64 k))],[],[],0⟩) (fun k=>l.length-k) (0) ⟨by omega,rfl⟩ ⟨qE (by simp),rfl,by simp,by simp⟩ ?_;rintro k ⟨hk,hall⟩;refine rgn [] [[]] ?_;refine op3 ?_;refine qA (AW.seq (cnd ?_ ?_))
 ·intro h9;try simp at h9
  obtain⟨v,hv⟩:∃ v,l[k]?=some v:=⟨l[k],by simp[h9]⟩;have hgv:=hg v (bH hv);refine AW.skip (AW.seq (AW.block (rgn [] [[],[0,1,5,7,8]] ?_)));iterate 2 refine op3 ?_
  refine qA (rgn [v.enc,.tup [v.enc],.bool (p v)] [[],[],[],[],[],[0,1,5,7,8,16]] ?_);iterate 6 refine op3 ?_ (hv:=by first|exact True.intro|(simp[hv];done)|(simp at hgv ⊢; exact hgv);done|omega|simp)
  refine qA (cnd ?_ ?_)
  ·intro h16;try simp at h16
   have hf:l.findIdx? p=some k:=by
    rw[dL];have h9':=h9;refine⟨h9, ?_,fun j hj => ?_⟩
    ·rw[cI h9]at hv;cases hv;exact h16
    have:=bR.1 hall (l[j]'(by omega)) (cP.2 ⟨j,by simp;omega,by simp⟩);simpa using this
   refine rgn [] [[],[4]] ?_;iterate 2 refine op3 ?_
   refine qA ?_;exact AW.ret (qI (k:=by simp[hf]))
  intro h16;try simp at h16
  refine AW.skip (rgz [] [[],[0,1,7,8]] ?_);iterate 2 refine op3 ?_
  refine qA ?_;exact⟨k+1,⟨by omega,by rw[bX,hv,dJ,hall];simpa using h16⟩,by omega,qE (by simp),rfl,by simp,by simp⟩
 intro h9;try simp at h9
 rw[bK h9]at hall;have hf:l.findIdx? p=none:=by
  rw[List.findIdx?_eq_none_iff];intro x hx;simpa using List.all_eq_true.1 hall x hx
 refine AW.exit ?_;simp;refine rgn [] [[]] ?_;refine op3 ?_;refine qA ?_;exact AW.ret (qI (k:=by simp[hf]))
theorem qML (l:List Val) (g:FuncId) (p:Val->Bool) (hg:∀ v∈l,AFn Tryz.prog G g [v.enc] (.bool (p v))):AFn Tryz.prog G 113 [.sl 9 (l.map Val.enc),.fn g] (.bool (l.any p)):=by
 refine AFn.introU tok Tryz.func113 (by kernel_rfl) rfl rfl ?_;simp only[Tryz.f113,qG,bA,bC];have hi:=zPH l g p hg;have ha:l.any p=decide (0<=(match l.findIdx? p with|some i=>(i:Int)|none => -1)):=by
  cases h:l.findIdx? p with
  | none=>simp;intro x hx;simpa using List.findIdx?_eq_none_iff.1 h x hx
  | some i =>
   obtain⟨h1,h2,_⟩:=dL.1 h;simp;exact⟨_,dV h1,h2⟩
 rw[ha];generalize (match l.findIdx? p with|some i=>(i:Int)|none => -1)=n at *;refine rgn [] [[0,1]] ?_;refine op3 ?_;refine qA (rgn [.nilp,.int .i64 n] [[],[],[7],[],[4]] ?_);iterate 5 refine oq1 tok hi ?_
 exact qA (AW.ret qI)
def yR (v:Val):List Val:=(zW v.keys).map (qMA v)
theorem qNJ {ks:List (List UInt8)} {s:List UInt8}:s∈zW ks↔s∈ks:=(List.mergeSort_perm ks _).mem_iff
theorem qVJ (ks:List (List UInt8)):AX Tryz.prog G 68 [.p (.sl 1 (ks.map PD.str))] [] (.func (.func 99) [] [.ptr 901 0]) [] [(901,.vars 27 [.p (.sl 1 (ks.map PD.str))])]:=by
 refine AX.introU tok 900 Tryz.func68 (by kernel_rfl) rfl rfl ?_;simp only[Tryz.f68,qG,bA,bC];refine rgn [] [[],[1]] ?_;iterate 2 refine op3 ?_
 refine qA (rgn [] [[],[2]] ?_);iterate 2 refine op3 ?_
 refine qA ?_;exact AW.ret zC
theorem qRT (v:Val) (hl:v.keys.length<=v.kids.length) (hn:v.keys.length<=1000000):AFn Tryz.prog G 126 [v.enc] (.tup [.sl 1 ((zW v.keys).map PD.str),.sl 9 ((yR v).map Val.enc)]):=by
 refine AFn.introU tok Tryz.func126 (by kernel_rfl) rfl rfl ?_;simp only[Tryz.f126,qG,bA,bC];have hsl:=qNK v.keys;have hix:=zYM (G:=G) v.keys;refine rgn [] [[],[],[1]] ?_;iterate 3 refine op3 ?_
 refine qA (rgn [] [[],[]] ?_);iterate 2 refine op3 ?_
 refine qJ ?_;refine qB.stepK [1,10] (zI rfl (qVJ v.keys) (by simp)) (by conv=>lhs;simp) rfl ?_;refine qB.stepK [1,11] (zI rfl (qVY 901 v.keys (by omega)) (by simp)) (by conv=>lhs;simp) rfl ?_;refine qB.run [[1,4]] ?_;refine op3 ?_;refine qA (rgn [] [[]] ?_);refine op3 ?_;refine qA (AW.seq (rgn [] [[],[],[]] ?_));iterate 3 refine op3 ?_
 refine qA (AW.block ?_);refine lJ 5 5 31 9 (by simp) (by simp) (by conv=>lhs;simp) ?_;refine AW.loop (α:=Nat) (fun k=>k<=v.keys.length) (fun k=>⟨qZ 32 [(1,.ptr 1 0),(4,.p (.sl 1 ((zW v.keys).map PD.str))),(5,.ms 5),(12,.p (.sl 1 ((zW v.keys).map PD.str))),(13,.p (.int .i64 v.keys.length)),(14,.p (.int .i64 k))],[],[(1,.vars 31 v.cells),(5,.row 31 9 (((yR v).take k).map Val.enc))],0⟩) (fun k=>v.keys.length-k) (0) (by omega) ⟨qE (by simp[hsl]),rfl,by simp,by simp⟩ ?_;rintro k hk;refine rgn [] [[]] ?_;refine op3 ?_;refine qA (AW.seq (cnd ?_ ?_))
 ·intro h15;try simp at h15
  obtain⟨s,hs⟩:∃ s,(zW v.keys)[k]?=some s:=⟨(zW v.keys)[k]'(by omega),by simp[show k<(zW v.keys).length by omega]⟩;have hm:s∈v.keys:=qNJ.1 (bH hs);have hkid:=qXA hl hm;have hi:=hix s;unfold zPJ at hi;rw[bE hm]at hi;refine AW.skip (AW.seq (AW.block ?_));have hks:(yR v)[k]?=some (qMA v s):=by simp[yR,hs]
  generalize hkv:yR v=kv at *;have hkl:(kv.take k).length<=k:=List.length_take_le _ _;refine rgn [.str s] [[],[],[1,4,5,7,12,13,14]] ?_;iterate 3 refine op3 ?_ (hv:=by first|exact True.intro|(simp[hs];done)|omega|simp)
  refine qA ?_;refine mF tok mixed [1,4,5,12,13,14] 11 [[5],[1],[19],[1],[21],[7],[22,23],[20,24],[25],[26],[18,27]] [.nilp,.int .i64 (v.keys.idxOf s),(qMA v s).enc,(qMA v s).enc] [] (by kernel_rfl) (by intro C;conv=>lhs;simp) (by(simp[hkid];exact⟨hi,by omega⟩)) (by simp[Sm.sum,Sm.foot,Sm.tch,Sm.refs];kernel_rfl) (by intro C;conv=>lhs;simp) (by first|exact True.intro|omega|simp) ?_;refine lI 28 5 (by simp) (by conv=>lhs;simp) ?_;refine rgz [] [[],[1,4,5,12,13,14]] ?_;iterate 2 refine op3 ?_
  refine qA ?_;exact⟨k+1,by omega,by omega,qE (by simp[bX,hks]),rfl,by simp[bX,hks],by simp[bX,hks]⟩
 intro h15;try simp at h15
 have hkl:(yR v).length=v.keys.length:=by simp[yR,hsl]
 refine AW.exit ?_;simp;refine lD 5 (by conv=>lhs;simp) ?_;refine rgn [] [[],[],[],[2,3]] ?_;iterate 4 refine op3 ?_
 refine qA ?_;exact AW.ret (qI (k:=by simp;rw[bK (by simp;omega)]))
def yP:Nat->Val->Val->Int
 | 0,_,_=>0
 | f+1,a,b=>if a.kind≠b.kind then kU a.kind b.kind else if a.kind=4 then qHY a.num b.num else if a.kind=5 then Lib.compareBytes a.text b.text else if a.kind=6 then wL (yP f) a.kids b.kids
  else if a.kind=8 then kU a.code b.code
  else if a.kind=7 then(if wL jW (zW a.keys) (zW b.keys)≠0 then wL jW (zW a.keys) (zW b.keys) else wL (yP f) (yR a) (yR b)) else 0
theorem qEU {v x:Val} (hl:v.keys.length<=v.kids.length) (h:x∈yR v):x∈v.kids:=by
 obtain⟨s,hs,rfl⟩:=cO.1 h;exact bH (qXA hl (qNJ.1 hs))
theorem zFM (f:Nat) (a b:Val) (ha:qU a=true) (hb:qU b=true) (ih:∀ x∈a.kids, ∀ y∈b.kids,AFn Tryz.prog G 83 [x.enc,y.enc] (.int .i64 (yP f x y))):AFn Tryz.prog G 83 [a.enc,b.enc] (.int .i64 (yP (f+1) a b)):=by
 refine AFn.introU tok Tryz.func83 (by kernel_rfl) rfl rfl ?_;simp only[Tryz.f83,qG,bA,bC];have hki:=zYX (G:=G) a.kind b.kind;have hce:=zYY (G:=G) a.code b.code;have hst:=zJV (G:=G) a.text b.text;refine rgn [] [[],[],[2,3]] ?_;iterate 3 refine op3 ?_
 refine qA (AW.seq (rgn [] [[],[],[],[],[2,3,13]] ?_));iterate 5 refine op3 ?_
 refine qA (cnd ?_ ?_)
 ·intro h13;try simp at h13
  have hR:yP (f+1) a b=kU a.kind b.kind:=by simp only[yP];rw[bE h13]
  refine rgn [.nilp,.int .i64 (kU a.kind b.kind)] [[],[],[],[15,17],[],[4]] ?_;iterate 6 refine oq1 tok hki ?_
  refine qA ?_;exact AW.ret (qI (k:=by simp[hR]))
 intro h13;try simp at h13
 have hkd:¬ a.kind≠b.kind:=by simpa using h13
 refine AW.skip (AW.seq (rgn [] [[],[2,3,20]] ?_));iterate 2 refine op3 ?_
 refine qA (AW.block (rgn [] [[],[2,3,20,21]] ?_));iterate 2 refine op3 ?_
 refine qA (cnd ?_ ?_)
 ·intro h21;try simp at h21
  have hR:yP (f+1) a b=qHY a.num b.num:=by simp only[yP];rw[bD hkd,bE h21]
  have hnum:=zYZ (G:=G) a.num b.num (jR (xP ha h21)).1 (jR (xP hb (by omega))).1;refine rgn [.nilp,.int .i64 (qHY a.num b.num)] [[],[],[],[24,26],[],[4]] ?_;iterate 6 refine op3 ?_ (hv:=by first|exact True.intro|((simp at hnum ⊢; exact hnum);done)|omega|simp)
  refine qA ?_;exact AW.ret (qI (k:=by simp[hR]))
 intro h21;try simp at h21
 refine rgn [] [[],[2,3,20,28]] ?_;iterate 2 refine op3 ?_
 refine qA (cnd ?_ ?_)
 ·intro h28;try simp at h28
  have hR:yP (f+1) a b=Lib.compareBytes a.text b.text:=by simp only[yP];rw[bD hkd,bD h21,bE h28]
  refine rgn [.nilp,.int .i64 (Lib.compareBytes a.text b.text)] [[],[],[],[31,33],[],[4]] ?_;iterate 6 refine oq1 tok hst ?_
  refine qA ?_;exact AW.ret (qI (k:=by simp[hR]))
 intro h28;try simp at h28
 refine rgn [] [[],[2,3,20,35]] ?_;iterate 2 refine op3 ?_
 refine qA (cnd ?_ ?_)
 ·intro h35;try simp at h35
  have hR:yP (f+1) a b=wL (yP f) a.kids b.kids:=by simp only[yP];rw[bD hkd,bD h21,bD h28,bE h35]
  have hcl:=zFN (G:=G) a.kids b.kids 83 (yP f) ih;refine rgn [.nilp,.int .i64 (wL (yP f) a.kids b.kids)] [[],[],[],[38,40],[],[4]] ?_;iterate 6 refine oq1 tok hcl ?_
  refine qA ?_;exact AW.ret (qI (k:=by simp[hR]))
 intro h35;try simp at h35
 refine rgn [] [[],[2,3,20,42]] ?_;iterate 2 refine op3 ?_
 refine qA (cnd ?_ ?_)
 ·intro h42;try simp at h42
  have hR:yP (f+1) a b=kU a.code b.code:=by simp only[yP];rw[bD hkd,bD h21,bD h28,bD h35,bE h42]
  refine rgn [.nilp,.int .i64 (kU a.code b.code)] [[],[],[],[45,47],[],[4]] ?_;iterate 6 refine oq1 tok hce ?_
  refine qA ?_;exact AW.ret (qI (k:=by simp[hR]))
 intro h42;try simp at h42
 refine rgn [] [[],[2,3,49]] ?_;iterate 2 refine op3 ?_
 refine qA (cnd ?_ ?_)
 ·intro h49;try simp at h49
  have hR:yP (f+1) a b=(if wL jW (zW a.keys) (zW b.keys)≠0 then wL jW (zW a.keys) (zW b.keys) else wL (yP f) (yR a) (yR b)):=by simp only[yP];rw[bD hkd,bD h21,bD h28,bD h35,bD h42,bE h49]
  have hoa:=qFU ha h49;have hob:=qFU hb (by omega);have hsa:=qRT (G:=G) a (by omega) (by omega);have hsb:=qRT (G:=G) b (by omega) (by omega);have hcs:=zUP (G:=G) (zW a.keys) (zW b.keys);have hcl:=zFN (G:=G) (yR a) (yR b) 83 (yP f) fun x hx y hy=>ih x (qEU (by omega) hx) y (qEU (by omega) hy);have hor:=wBZ (G:=G) (wL jW (zW a.keys) (zW b.keys)) (wL (yP f) (yR a) (yR b));rw[<-hR]at hor;refine rgn [.nilp,.tup [.sl 1 ((zW a.keys).map PD.str),.sl 9 ((yR a).map Val.enc)]] [[],[],[],[],[3,54,55],[],[3,5,6]] ?_;iterate 7 refine op3 ?_ (hv:=by first|exact True.intro|((simp at hsa ⊢; exact hsa);done)|omega|simp)
  refine qA (rgn [.nilp,.tup [.sl 1 ((zW b.keys).map PD.str),.sl 9 ((yR b).map Val.enc)]] [[],[],[],[],[5,6,59,60],[],[5,6,7,8]] ?_);iterate 7 refine op3 ?_ (hv:=by first|exact True.intro|((simp at hsb ⊢; exact hsb);done)|omega|simp)
  refine qA (rgn [.nilp,.int .i64 (wL jW (zW a.keys) (zW b.keys)),.nilp,.int .i64 (wL (yP f) (yR a) (yR b)),.int .i64 (wL jW (zW a.keys) (zW b.keys)),.int .i64 (wL (yP f) (yR a) (yR b)),.nilp,.int .i64 (yP (f+1) a b)] [[],[],[6,8,63],[],[],[63,66],[],[],[4]] ?_);iterate 9 refine oq1 tok (ai hcs (ai hcl hor)) ?_
  exact qA (AW.ret qI)
 intro h49;try simp at h49
 have hR:yP (f+1) a b=0:=by simp only[yP];rw[bD hkd,bD h21,bD h28,bD h35,bD h42,bD h49]
 refine AW.skip (rgn [] [[]] ?_);refine op3 ?_;refine qA ?_;exact AW.ret (qI (k:=by simp[hR]))
theorem zME:∀ (f:Nat) (a b:Val),qU a=true->qU b=true->iR a<=f->AFn Tryz.prog G 83 [a.enc,b.enc] (.int .i64 (yP (f+1) a b))
 | 0,a,b,ha,hb,h=>zFM 0 a b ha hb fun x hx=>by have:=mB hx;omega
 | f+1,a,b,ha,hb,h=>zFM (f+1) a b ha hb fun x hx y hy=>zME f x y (yZ ha hx) (yZ hb hy) (by have:=mB hx;omega)
def wT (a b:Val):Int:=yP (iR a+1) a b
theorem qMN (a b:Val) (ha:qU a=true) (hb:qU b=true):AFn Tryz.prog G 83 [a.enc,b.enc] (.int .i64 (wT a b)):=zME _ a b ha hb (bP _)
end Go.Proofs.YtgcbapchinideaaGreatDoor
