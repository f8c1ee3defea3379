import Derived.Test.YtgcbapchinideaaGreatDoorSStab
import Derived.Test.YtgcbapchinideaaGreatDoorK2
import Derived.Test.YtgcbapchinideaaGreatDoorSSplit
namespace Go.Proofs.YtgcbapchinideaaGreatDoor
open Sy Go
set_option maxRecDepth 100000
set_option maxHeartbeats 4000000
set_option linter.unusedSimpArgs false
set_option linter.unusedVariables false
variable {G:qK}
def leV (a b:Val):Bool:=decide (zD a b≤0)
theorem xL:LO leV (fun v=>zC v=true):=by
 refine ⟨fun {a b} ha hb h => ?_,fun {a b c} ha hb hc h1 h2 => ?_⟩
 ·have:=qZ.anti a b ha hb
  simp [leV] at h ⊢; omega
 simp [leV] at h1 h2 ⊢
 exact qZ.tr a b c ha hb hc h1 h2
theorem qNQ {x y:Val} (hx:zC x=true) (hy:zC y=true) (h:zD x y<0):leV y x=false:=by
 have:=qZ.anti x y hx hy
 simp [leV]; omega
theorem qNR {x y:Val} (hx:zC x=true) (hy:zC y=true) (h:¬ zD x y<0):leV y x=true:=by
 have:=qZ.anti x y hx hy
 simp [leV]; omega
def zF (l:List Val):List PD:=l.map Val.enc
theorem yL (l:List Val):(zF l).length=l.length:=List.length_map _
theorem wL {A B:List Val} {x:Val}:(zF (A++x::B))[A.length]?=some x.enc:=by unfold zF; simp
theorem vC {A B:List Val} {x y:Val}:(zF (A++x::B)).set A.length y.enc=zF (A++y::B):=by unfold zF; simp
theorem qCL {A B:List Val} {x y:Val}:(zF (A++x::y::B))[A.length+1]?=some y.enc:=by
 have:=wL (A:=A++[x]) (B:=B) (x:=y)
 simpa using this
theorem qFM {A B:List Val} {x y z:Val}:(zF (A++x::y::B)).set (A.length+1) z.enc=zF (A++x::z::B):=by
 have:=vC (A:=A++[x]) (B:=B) (x:=y) (y:=z)
 simpa using this
theorem zCK {S:List Val} {k:Nat} {x:Val} (hm:∀ v∈S,zC v=true) (hx:S[k]?=some x):srt leV (S.take (k+1))=mrg leV (srt leV (S.take k)) [x]:=by
 have h1:S.take (k+1)=S.take k++[x]:=by rw [List.take_add_one,hx]; rfl
 rw [h1,qHJ xL _ _ (fun v hv=>hm v (List.mem_of_mem_take hv)) (fun v hv=>by rw [List.mem_singleton.1 hv]; exact hm _ (List.mem_of_getElem? hx))]
 show mrg leV _ (mrg leV [x] [])=_
 rw [wI]
theorem zDB {Q1 Q2:List Val} {x:Val} (hs:Sor leV (Q1++Q2)) (hm:∀ v∈Q1++Q2,zC v=true) (hx:zC x=true) (h2:∀ y∈Q2,zD x y<0) (h1:∀ y,Q1.getLast?=some y→¬ zD x y<0):mrg leV (Q1++Q2) [x]=Q1++x::Q2:=by
 refine qNO (fun y hy => ?_) (fun y hy=>qNQ hx (hm y (List.mem_append_right _ hy)) (h2 y hy))
 rcases List.eq_nil_or_concat Q1 with rfl | ⟨Q,z,e⟩
 ·simp at hy
 rw [List.concat_eq_append] at e
 subst e
 have hz:=qNR hx (hm z (by simp)) (h1 z (by simp))
 rcases List.mem_append.1 (by simpa using hy:y∈Q++[z]) with hq | hq
 ·have hs2:=(List.pairwise_append.1 (List.pairwise_append.1 hs).1)
  exact xL.tr (hm y (by simp [hq])) (hm z (by simp)) hx (hs2.2.2 y hq z (by simp)) hz
 rw [List.mem_singleton.1 hq]; exact hz
theorem qUX (X S Y:List Val) (hl:X.length+S.length+Y.length≤1000000) (hm:∀ v∈S,zC v=true):AX Tryz.prog G 160 [.ms 890,.p (.int .i64 X.length),.p (.int .i64 ((X.length+S.length:Nat):Int)),.p (.fn 83)] [(890,.row 31 9 (zF (X++(S++Y))))] (.tuple []) [890] [(890,.row 31 9 (zF (X++(srt leV S++Y))))]:=by
 refine AX.introU tok 700 Tryz.func160 (by kernel_rfl) rfl rfl ?_
 simp only [Tryz.f160,qH,List.map_cons,List.map_nil]
 have e0:X++(S++Y)=X++(srt leV (S.take 1)++(S.drop 1++Y)):=by
  cases S with
  | nil=>rfl
  | cons x S=>rw [show (x::S).take 1=[x] from rfl,show srt leV [x]=[x] from wI _]; rfl
 rw [e0]
 have hcm:=fun a b ha hb=>qEU (G:=G) a b ha hb
 refine rgn [] [[],[],[0,1,2,3,8]] ?_
 iterate 3 refine op1 tok ?_
 refine qA (AW.block ?_)
 refine AW.loop (α:=Nat) (fun k=>1≤k∧(k≤S.length∨k=1)) (fun k=>⟨qS 53 [(0,.ms 890),(1,.p (.int .i64 X.length)),(2,.p (.int .i64 ((X.length+S.length:Nat):Int))),(3,.p (.fn 83)),(8,.p (.int .i64 ((X.length+k:Nat):Int)))],[890],[(890,.row 31 9 (zF (X++(srt leV (S.take k)++(S.drop k++Y)))))],700⟩) (fun k=>S.length-k) (1) ⟨by omega,.inr rfl⟩ ⟨qB (by simp),rfl,by simp,by simp⟩ ?_
 rintro k ⟨hk1,hk2⟩
 refine AW.seq (rgn [] [[],[],[0,1,2,3,8,14]] ?_)
 iterate 3 refine op1 tok ?_
 refine qA (cnd ?_ ?_)
 ·intro h14
  try simp at h14
  obtain ⟨x,hx⟩:∃ x,S[k]?=some x:=⟨S[k]'(by omega),by simp [show k<S.length by omega]⟩
  have hxm:=hm x (List.mem_of_getElem? hx)
  have hd:S.drop k=x::S.drop (k+1):=by
   obtain ⟨h1,h2⟩:=List.getElem?_eq_some_iff.1 hx
   rw [List.drop_eq_getElem_cons h1,h2]
  have hst:=zCK hm hx
  have hql:(srt leV (S.take k)).length=k:=by rw [jD,List.length_take]; omega
  have hqs:=qAE xL (S.take k) (fun v hv=>hm v (List.mem_of_mem_take hv))
  have hqm:∀ v∈srt leV (S.take k),zC v=true:=fun v hv=>hm v (List.mem_of_mem_take (qDY.1 hv))
  rw [hd]
  generalize hR:S.drop (k+1)++Y=R at *
  generalize srt leV (S.take k)=Q at *
  refine AW.skip (AW.seq (AW.block (rgn [] [[],[0,1,2,3,8,9]] ?_)))
  iterate 2 refine op1 tok ?_
  refine qA (AW.block ?_)
  refine AW.loop (α:=List Val × List Val) (fun a=>Q=a.1++a.2∧∀ y∈a.2,zD x y<0) (fun a=>⟨qS 53 [(0,.ms 890),(1,.p (.int .i64 X.length)),(2,.p (.int .i64 ((X.length+S.length:Nat):Int))),(3,.p (.fn 83)),(8,.p (.int .i64 ((X.length+k:Nat):Int))),(9,.p (.int .i64 ((X.length+a.1.length:Nat):Int)))],[890],[(890,.row 31 9 (zF (X++(a.1++(x::(a.2++R))))))],700⟩) (fun a=>a.1.length) ((Q,[])) ⟨by simp,by simp⟩ ⟨qB (by simp [hql]),rfl,by simp [hR],by simp [hR]⟩ ?_
  rintro ⟨Q1,Q2⟩ ⟨hq,hq2⟩
  simp only at hq hq2
  have hrl:(zF (X++(Q1++x::(Q2++R)))).length=X.length+Q1.length+1+Q2.length+R.length:=by rw [yL]; simp; omega
  obtain ⟨P,y,hP⟩:∃ P y,0<Q1.length→Q1=P++[y]:=by
   rcases List.eq_nil_or_concat Q1 with rfl | ⟨Q,z,e⟩
   ·exact ⟨[],x,fun h=>absurd h (by simp)⟩
   exact ⟨Q,z,fun _=>by rw [e,List.concat_eq_append]⟩
  have hg1:(zF (X++(Q1++x::(Q2++R))))[X.length+Q1.length]?=some x.enc:=by
   have:=wL (A:=X++Q1) (B:=Q2++R) (x:=x)
   rwa [List.length_append,List.append_assoc] at this
  have hg2:0<Q1.length→(zF (X++(Q1++x::(Q2++R))))[X.length+Q1.length-1]?=some y.enc:=fun h=>by
   have e:=hP h
   have:=wL (A:=X++P) (B:=x::(Q2++R)) (x:=y)
   rw [e,show X.length+(P++[y]).length-1=(X++P).length by simp <;> omega]
   simpa using this
  have hym:0<Q1.length→zC y=true:=fun h=>hqm y (by rw [hq,hP h]; simp)
  have hQl:Q1.length+Q2.length=k:=by rw [← hql,hq]; simp
  have hc:=fun h=>hcm x y hxm (hym h)
  have htn:((X.length:Int)+Q1.length).toNat=X.length+Q1.length:=by omega
  simp only [Val.enc_def x,Val.enc_def y] at hg1 hg2 hc
  rw [← htn] at hg1 hg2
  refine AW.seq ?_
  refine AW.seqDrawS tok mixed 17 [[9],[1],[18,19],[20],[3,21],[0,21],[9,21],[23,24,21],[25,21],[0,21],[9,21],[28,21],[27,29,21],[30,21],[22,26,31,21],[32,21],[21,33]] [x.enc,y.enc,.nilp,.int .i64 (zD x y)] [] (by kernel_rfl) ?_
  iterate 4 refine d1 ?_ (hv:=by first | with_reducible exact True.intro | ((intro g; refine ⟨g, ?_⟩; first | exact hg1 | exact hg2 (by omega) | exact hc (by omega) | (refine ⟨by omega, ?_⟩; rw [hrl]; omega) | omega); done) | omega | simp | (simp +contextual; omega))
  iterate 12 refine d2 21 rfl rfl ?_ (hv:=by first | with_reducible exact True.intro | ((intro g; refine ⟨g, ?_⟩; first | exact hg1 | exact hg2 (by omega) | exact hc (by omega) | (refine ⟨by omega, ?_⟩; rw [hrl]; omega) | omega); done) | omega | simp | (simp +contextual; omega))
  refine d1 ?_ (hv:=by first | with_reducible exact True.intro | ((intro g; refine ⟨g, ?_⟩; first | exact hg1 | exact hg2 (by omega) | exact hc (by omega) | (refine ⟨by omega, ?_⟩; rw [hrl]; omega) | omega); done) | omega | simp | (simp +contextual; omega))
  refine DGo.nil (by kernel_rfl) ⟨by kernel_rfl, ?_⟩
  refine qF.nil ?_
  refine cnd ?_ ?_
  ·intro h34
   try simp at h34
   obtain ⟨hq0,hlt⟩:=h34
   have hQ1:=hP (by omega)
   have hymm:=hym (by omega)
   subst hQ1
   have e1:X++(P++[y]++x::(Q2++R))=(X++P)++y::x::(Q2++R):=by simp
   have e2:(X++P)++x::y::(Q2++R)=X++(P++x::(y::Q2++R)):=by simp
   have hnl:(X++P).length=X.length+P.length:=by simp
   have b1:=wL (A:=X++P) (B:=x::(Q2++R)) (x:=y)
   have b2:=qCL (A:=X++P) (B:=Q2++R) (x:=y) (y:=x)
   have b3:=qFM (A:=X++P) (B:=Q2++R) (x:=y) (y:=x) (z:=y)
   have b4:=vC (A:=X++P) (B:=y::(Q2++R)) (x:=y) (y:=x)
   have b5:=wL (A:=X++P) (B:=y::(Q2++R)) (x:=y)
   rw [e2] at b4
   rw [e1]
   rw [e1,yL] at hrl
   simp only [hnl,List.append_assoc] at b1 b2 b3 b4 b5
   have ht:((X.length:Int)+((P.length:Int)+1)).toNat=X.length+P.length+1:=by omega
   have hrl2:(zF (X++(P++y::x::(Q2++R)))).length=X.length+P.length+2+Q2.length+R.length:=by rw [yL]; simp; omega
   have hPl:P.length+1+Q2.length=k:=by simpa using hQl
   simp only [Val.enc_def x,Val.enc_def y] at b1 b2 b3 b4 b5
   refine AW.skip (AW.seq (AW.block ?_))
   refine AW.drawR mixed 16 [[0],[9],[0],[9],[40],[0],[9],[43],[42,44],[45],[0],[9],[47,48],[49],[37,38],[51,46]] [y.enc,x.enc] (by kernel_rfl) ?_
   iterate 2 refine zB.one tok (orc:=[]) (by intro C; conv=>lhs; simp) (by first | with_reducible exact True.intro | (first | (rw [ht]; exact b2) | (rw [ht,Nat.add_sub_cancel]; exact b1) | (refine ⟨by omega, ?_⟩; rw [hrl2]; omega) | omega; done) | omega | simp | (simp +contextual; omega)) rfl (by kernel_rfl) ?_
   refine zB.q [890] (.ms 890) rfl (qAD tok (orc:=[]) (orc':=[]) (v:=True) (by conv=>lhs; simp) trivial) (by simp) (by kernel_rfl) (by conv=>lhs; simp) ?_
   iterate 6 refine zB.one tok (orc:=[]) (by intro C; conv=>lhs; simp) (by first | with_reducible exact True.intro | (first | (rw [ht]; exact b2) | (rw [ht,Nat.add_sub_cancel]; exact b1) | (refine ⟨by omega, ?_⟩; rw [hrl2]; omega) | omega; done) | omega | simp | (simp +contextual; omega)) rfl (by kernel_rfl) ?_
   refine zB.one tok (orc:=[y.enc]) (by intro C; conv=>lhs; simp) (by first | with_reducible exact True.intro | (first | (rw [ht]; exact b2) | (rw [ht,Nat.add_sub_cancel]; exact b1) | (refine ⟨by omega, ?_⟩; rw [hrl2]; omega) | omega; done) | omega | simp | (simp +contextual; omega)) rfl (by kernel_rfl) ?_
   iterate 3 refine zB.one tok (orc:=[]) (by intro C; conv=>lhs; simp) (by first | with_reducible exact True.intro | (first | (rw [ht]; exact b2) | (rw [ht,Nat.add_sub_cancel]; exact b1) | (refine ⟨by omega, ?_⟩; rw [hrl2]; omega) | omega; done) | omega | simp | (simp +contextual; omega)) rfl (by kernel_rfl) ?_
   refine zB.one tok (orc:=[x.enc]) (by intro C; conv=>lhs; simp) (by first | with_reducible exact True.intro | (first | (rw [ht]; exact b2) | (rw [ht,Nat.add_sub_cancel]; exact b1) | (refine ⟨by omega, ?_⟩; rw [hrl2]; omega) | omega; done) | omega | simp | (simp +contextual; omega)) rfl (by kernel_rfl) ?_
   refine zB.one tok (orc:=[]) (by intro C; conv=>lhs; simp) (by first | with_reducible exact True.intro | (first | (rw [ht]; exact b2) | (rw [ht,Nat.add_sub_cancel]; exact b1) | (refine ⟨by omega, ?_⟩; rw [hrl2]; omega) | omega; done) | omega | simp | (simp +contextual; omega)) rfl (by kernel_rfl) ?_
   refine zB.one tok (orc:=[x.enc,y.enc]) (by intro C; conv=>lhs; simp) (by first | with_reducible exact True.intro | (first | (rw [ht]; exact b2) | (rw [ht,Nat.add_sub_cancel]; exact b1) | (refine ⟨by omega, ?_⟩; rw [hrl2]; omega) | omega; done) | omega | simp | (simp +contextual; omega)) rfl (by kernel_rfl) ?_
   refine zB.nil (by kernel_rfl) ⟨by kernel_rfl, ?_⟩
   refine qF.run [[],[0,1,2,3,8,9]] ?_
   iterate 2 refine op1 tok ?_ (hv:=by first | with_reducible exact True.intro | (first | (rw [ht,Nat.add_sub_cancel,b3]; exact b5) | (rw [List.length_set,hrl2]; omega) | (refine ⟨by omega, ?_⟩; rw [List.length_set,hrl2]; omega) | omega; done) | omega | simp | (simp +contextual; omega))
   refine qA (rgz [] [[],[],[0,1,2,3,8,9]] ?_)
   iterate 3 refine op1 tok ?_
   refine qA ?_
   exact ⟨(P,y::Q2),⟨by rw [hq]; simp,fun z hz=>by rcases List.mem_cons.1 hz with rfl | hz; exact hlt; exact hq2 z hz⟩,by simp,qB (by simp [ht,b3,b4,show (X.length:Int)+((P.length:Int)+1)-1=X.length+P.length from by omega]),rfl,by simp [ht,b3,b4,show (X.length:Int)+((P.length:Int)+1)-1=X.length+P.length from by omega],by simp [ht,b3,b4,show (X.length:Int)+((P.length:Int)+1)-1=X.length+P.length from by omega]⟩
  intro h34
  try simp at h34
  have hend:=zDB (hq ▸ hqs) (hq ▸ hqm) hxm hq2 (fun z hz hl=>by
   have hp:0<Q1.length:=by cases Q1 with
    | nil=>simp at hz
    | cons a b=>simp
   rw [hP hp] at hz
   simp at hz
   subst hz
   first | exact h34 ⟨by omega,hl⟩ | (have:=h34 (by omega); omega))
  rw [← hq,← hst] at hend
  have e3:X++(Q1++x::(Q2++R))=X++(srt leV (S.take (k+1))++(S.drop (k+1)++Y)):=by rw [hend,hR]; simp [List.append_assoc]
  rw [e3]
  refine AW.exit ?_
  simp
  refine rgz [] [[],[],[0,1,2,3,8]] ?_
  iterate 3 refine op1 tok ?_
  refine qA ?_
  exact ⟨k+1,⟨by omega,.inl (by omega)⟩,by omega,qB (by simp [show (X.length:Int)+(k:Int)+1=X.length+(k+1) from by omega]),rfl,by simp [show (X.length:Int)+(k:Int)+1=X.length+(k+1) from by omega],by simp [show (X.length:Int)+(k:Int)+1=X.length+(k+1) from by omega]⟩
 intro h14
 try simp at h14
 have hall:S.take k=S:=List.take_of_length_le (by omega)
 have hdr:S.drop k=[]:=List.drop_of_length_le (by omega)
 rw [hall,hdr]
 refine AW.exit ?_
 simp
 exact qCV
end Go.Proofs.YtgcbapchinideaaGreatDoor
