import Derived.Test.YtdojfdaglbphlaaGreatDoorK3
import Derived.Test.YtdojfdaglbphlaaGreatDoorK1
namespace Go.Proofs.YtdojfdaglbphlaaGreatDoor
open Sy Go
set_option maxRecDepth 100000
set_option maxHeartbeats 4000000
set_option linter.unusedSimpArgs false
set_option linter.unusedVariables false
variable {G:qR}
def scD (digits:List UInt8) (scale:Int):List UInt8:=if scale<0 then digits++List.replicate (-scale).toNat 48 else digits
def scS (scale:Int):Int:=if scale<0 then 0 else scale
def scP (d:List UInt8) (s:Int):List UInt8:=if (d.length:Int)≤s then List.replicate (s+1-d.length).toNat 48++d else d
def scW (w:List UInt8):List UInt8:=if w=[] then [48] else w
def scN (neg:Bool) (w:List UInt8):List UInt8:=if neg=true then 45::w else w
def scF (w f:List UInt8) (s:Int):List UInt8:=if 0<s then w++46::f else w
def scT (neg:Bool) (d:List UInt8) (s:Int):List UInt8:=scF (scN neg (scW (qQ (d.take ((d.length:Int)-s).toNat)))) (d.drop ((d.length:Int)-s).toNat) s
def qAI (neg:Bool) (digits:List UInt8) (scale:Int):List UInt8:=scT neg (scP (scD digits scale) (scS scale)) (scS scale)
theorem zCH (neg:Bool) (digits:List UInt8) (scale:Int) (h1:digits.length≤10000) (h2 : -10000≤scale) (h3:scale≤10000):(qAI neg digits scale).length≤1000000:=by
 have hd:(scD digits scale).length≤20000:=by unfold scD; split <;> (try simp) <;> (try omega)
 have hs:scS scale≤10000:=by unfold scS; split <;> omega
 unfold qAI
 generalize scD digits scale=d at *
 generalize scS scale=s at *
 have hp:(scP d s).length≤40000:=by unfold scP; split <;> (try simp) <;> (try omega)
 generalize scP d s=e at *
 unfold scT
 have hst:∀ w:List UInt8,(qQ w).length≤w.length:=fun w=>(List.dropWhile_sublist _).length_le
 have hw:=hst (e.take ((e.length:Int)-s).toNat)
 generalize qQ (e.take ((e.length:Int)-s).toNat)=w at *
 have hw2:(scW w).length≤40001:=by unfold scW; simp at hw; split <;> (try simp) <;> (try omega)
 generalize scW w=w2 at *
 have hw3:(scN neg w2).length≤40002:=by unfold scN; split <;> (try simp) <;> (try omega)
 generalize scN neg w2=w3 at *
 unfold scF
 split <;> (try simp) <;> (try omega)
theorem qKE (neg:Bool) (digits:List UInt8) (scale:Int) (h1:digits.length≤10000) (h2 : -10000≤scale) (h3:scale≤10000):AFn Tryz.prog G 97 [.bool neg,.str digits,.int .i64 scale] (.tup [(wO (qAI neg digits scale)).1.enc,.int .i64 (wO (qAI neg digits scale)).2]):=by
 refine AFn.introU tok Tryz.func97 (by kernel_rfl) rfl rfl ?_
 simp only [Tryz.f97,qI,List.map_cons,List.map_nil]
 have hp:=zBN (G:=G) (qAI neg digits scale) (by have:=zCH neg digits scale h1 h2 h3; omega)
 generalize wO (qAI neg digits scale)=R at *
 have hwn:IntKind.i64.wrap (-scale) = -scale:=by simp [IntKind.wrap,IntKind.bits,IntKind.signed]; omega
 unfold qAI at hp
 obtain ⟨S1,hS⟩:∃ s,s=scS scale:=⟨_,rfl⟩
 obtain ⟨D,hD⟩:∃ d,d=scD digits scale:=⟨_,rfl⟩
 rw [← hS,← hD] at hp
 have bS:0≤S1∧S1≤10000:=by rw [hS]; unfold scS; split <;> omega
 have bD:D.length≤20000:=by rw [hD]; unfold scD; split <;> (try simp) <;> omega
 obtain ⟨E,hE⟩:∃ e,e=scP D S1:=⟨_,rfl⟩
 rw [← hE] at hp
 unfold scT at hp
 have bE:E.length≤40000∧S1<E.length:=by rw [hE]; unfold scP; split <;> (try simp) <;> omega
 obtain ⟨n,hn⟩:∃ n:Nat,(E.length:Int)-S1=n:=⟨((E.length:Int)-S1).toNat,by omega⟩
 rw [hn,Int.toNat_natCast] at hp
 obtain ⟨w,hw⟩:∃ w,w=qQ (E.take n):=⟨_,rfl⟩
 obtain ⟨W,hW⟩:∃ x,x=scW w:=⟨_,rfl⟩
 obtain ⟨M,hM⟩:∃ x,x=scN neg W:=⟨_,rfl⟩
 obtain ⟨F,hF⟩:∃ x,x=scF M (E.drop n) S1:=⟨_,rfl⟩
 rw [← hw,← hW,← hM,← hF] at hp
 have bw:w.length≤40000:=by
  rw [hw]
  have h1:(qQ (E.take n)).length≤(E.take n).length:=(List.dropWhile_sublist _).length_le
  rw [List.length_take] at h1; omega
 have bW:W.length≤40001:=by rw [hW]; unfold scW; split <;> (try simp) <;> omega
 have bM:M.length≤40002:=by rw [hM]; unfold scN; split <;> (try simp) <;> omega
 have htl:=qAN (G:=G) (E.take n) 48 (by decide)
 rw [show (E.take n).dropWhile (· == 48)=w from hw.symm] at htl
 refine rgn [] [[],[0,1,2,6]] ?_
 iterate 2 refine op1 tok ?_
 refine qA ?_
 refine AW.join (α:=Unit) (fun _=>True) (fun a=>⟨qV 56 [(0,.p (.bool neg)),(1,.p (.str D)),(2,.p (.int .i64 S1)),(6,.ptr 6 0)],[],[(6,.vars 26 [.p (.bool false),.p (.str []),.p (.int .i64 0)])],0⟩) ?_ ?_
 ·
  refine rgn [] [[],[0,1,2,6,12]] ?_
  iterate 2 refine op1 tok ?_
  refine qA (cnd ?_ ?_)
  ·intro h12
   try simp at h12
   have e1:D=digits++List.replicate (-scale).toNat 48:=by rw [hD]; unfold scD; rw [if_pos h12]
   have e2:S1=0:=by rw [hS]; unfold scS; rw [if_pos h12]
   have hre:=qDO (G:=G) [48] (-scale).toNat (by simp; omega)
   rw [qGF,show (((-scale).toNat:Nat):Int) = -scale by omega] at hre
   refine rgz [.nilp,.str (List.replicate (-scale).toNat 48)] [[],[],[],[0,6,13,16],[],[],[0,1,2,6]] ?_
   iterate 7 refine op1 tok ?_ (h:=by intro C; conv=>lhs; simp [hwn]) (hv:=by first | with_reducible exact True.intro | ((simpa [hwn] using hre); done) | omega | simp | (simp +contextual; omega))
   refine qA ?_
   exact ⟨(),trivial,qB (by simp [e1,e2]),rfl,by simp [e1,e2],by simp [e1,e2]⟩
  intro h12
  try simp at h12
  have e1:D=digits:=by rw [hD]; unfold scD; rw [if_neg (by omega)]
  have e2:S1=scale:=by rw [hS]; unfold scS; rw [if_neg (by omega)]
  refine AW.skip ?_
  exact ⟨(),trivial,qB (by simp [e1,e2]),rfl,by simp [e1,e2],by simp [e1,e2]⟩
 ·
  rintro a hI
  refine AW.join (α:=Unit) (fun _=>True) (fun a=>⟨qV 56 [(0,.p (.bool neg)),(1,.p (.str E)),(2,.p (.int .i64 S1)),(6,.ptr 6 0)],[],[(6,.vars 26 [.p (.bool false),.p (.str []),.p (.int .i64 0)])],0⟩) ?_ ?_
  ·
   refine rgn [] [[],[],[],[0,1,2,6,21]] ?_
   iterate 4 refine op1 tok ?_
   refine qA (cnd ?_ ?_)
   ·intro h21
    try simp at h21
    have e1:E=List.replicate (S1+1-D.length).toNat 48++D:=by rw [hE]; unfold scP; rw [if_pos h21]
    have hre:=qDO (G:=G) [48] (S1+1-D.length).toNat (by simp; omega)
    rw [qGF,show (((S1+1-D.length).toNat:Nat):Int)=S1+1-D.length by omega] at hre
    refine rgz [.nilp,.str (List.replicate (S1+1-D.length).toNat 48)] [[],[],[],[],[0,1,2,6,26],[],[],[0,2,6,29],[0,1,2,6]] ?_
    iterate 9 refine oq1 tok hre ?_
    refine qA ?_
    exact ⟨(),trivial,qB (by simp [e1]),rfl,by simp [e1],by simp [e1]⟩
   intro h21
   try simp at h21
   have e1:E=D:=by rw [hE]; unfold scP; rw [if_neg (by omega)]
   refine AW.skip ?_
   exact ⟨(),trivial,qB (by simp [e1]),rfl,by simp [e1],by simp [e1]⟩
  ·
   rintro a hI
   refine rgn [] [[],[],[],[],[0,1,2,6,8]] ?_
   iterate 5 refine op1 tok ?_ (h:=by intro C; conv=>lhs; simp [hn])
   refine qA (rgn [.nilp,.str w] [[],[],[],[],[0,1,2,6,8,9]] ?_)
   iterate 5 refine op1 tok ?_ (h:=by intro C; conv=>lhs; simp [hn]) (hv:=by first | with_reducible exact True.intro | (first | (simpa [hn] using htl) | (simp; omega); done) | omega | simp | (simp +contextual; omega))
   refine qA ?_
   refine AW.join (α:=Unit) (fun _=>True) (fun a=>⟨qV 56 [(0,.p (.bool neg)),(1,.p (.str E)),(2,.p (.int .i64 S1)),(6,.ptr 6 0),(8,.p (.int .i64 n)),(9,.p (.str W))],[],[(6,.vars 26 [.p (.bool false),.p (.str []),.p (.int .i64 0)])],0⟩) ?_ ?_
   ·
    refine rgn [] [[],[0,1,2,6,8,9,39]] ?_
    iterate 2 refine op1 tok ?_
    refine qA (cnd ?_ ?_)
    ·intro h39
     try simp at h39
     have e1:W=[48]:=by rw [hW]; unfold scW; rw [if_pos h39]
     refine rgz [] [[]] ?_
     refine op1 tok ?_
     refine qA ?_
     exact ⟨(),trivial,qB (by simp [e1]),rfl,by simp [e1],by simp [e1]⟩
    intro h39
    try simp at h39
    have e1:W=w:=by rw [hW]; unfold scW; rw [if_neg h39]
    refine AW.skip ?_
    exact ⟨(),trivial,qB (by simp [e1]),rfl,by simp [e1],by simp [e1]⟩
   ·
    rintro a hI
    refine rgn [] [[],[0,1,2,6,8,10]] ?_
    iterate 2 refine op1 tok ?_
    refine qA ?_
    refine AW.join (α:=Unit) (fun _=>True) (fun a=>⟨qV 56 [(1,.p (.str E)),(2,.p (.int .i64 S1)),(6,.ptr 6 0),(8,.p (.int .i64 n)),(10,.p (.str M))],[],[(6,.vars 26 [.p (.bool false),.p (.str []),.p (.int .i64 0)])],0⟩) ?_ ?_
    ·
     refine rgn [] [[1,2,6,8,10,41]] ?_
     refine op1 tok ?_
     refine qA (cnd ?_ ?_)
     ·intro h41
      try simp at h41
      have e1:M=45::W:=by rw [hM]; unfold scN; rw [if_pos h41]
      refine rgz [] [[],[],[1,2,6,8,10]] ?_
      iterate 3 refine op1 tok ?_ (hv:=by first | with_reducible exact True.intro | (first | omega | (simp; omega); done) | omega | simp | (simp +contextual; omega))
      refine qA ?_
      exact ⟨(),trivial,qB (by simp [e1]),rfl,by simp [e1],by simp [e1]⟩
     intro h41
     try simp at h41
     have e1:M=W:=by rw [hM]; unfold scN; rw [if_neg (by simp [h41])]
     refine AW.skip ?_
     exact ⟨(),trivial,qB (by simp [e1]),rfl,by simp [e1],by simp [e1]⟩
    ·
     rintro a hI
     refine AW.join (α:=Unit) (fun _=>True) (fun a=>⟨qV 56 [(6,.ptr 6 0),(10,.p (.str F))],[],[(6,.vars 26 [.p (.bool false),.p (.str []),.p (.int .i64 0)])],0⟩) ?_ ?_
     ·
      refine rgn [] [[],[1,6,8,10,45]] ?_
      iterate 2 refine op1 tok ?_
      refine qA (cnd ?_ ?_)
      ·intro h45
       try simp at h45
       have e1:F=M++46::E.drop n:=by rw [hF]; unfold scF; rw [if_pos h45]
       have hnE:n≤E.length:=by omega
       refine rgz [] [[],[],[],[6,46,49],[],[],[6,10]] ?_
       iterate 7 refine op1 tok ?_ (hv:=by first | with_reducible exact True.intro | (first | omega | (simp; omega); done) | omega | simp | (simp +contextual; omega))
       refine qA ?_
       exact ⟨(),trivial,qB (by simp [e1]),rfl,by simp [e1],by simp [e1]⟩
      intro h45
      try simp at h45
      have e1:F=M:=by rw [hF]; unfold scF; rw [if_neg (by omega)]
      refine AW.skip ?_
      exact ⟨(),trivial,qB (by simp [e1]),rfl,by simp [e1],by simp [e1]⟩
     ·
      rintro a hI
      refine rgn [.nilp,.tup [R.1.enc,.int .i64 R.2]] [[],[],[],[],[6,55],[6,7]] ?_
      iterate 6 refine oq1 tok hp ?_
      exact qA (AW.ret qG)
end Go.Proofs.YtdojfdaglbphlaaGreatDoor
