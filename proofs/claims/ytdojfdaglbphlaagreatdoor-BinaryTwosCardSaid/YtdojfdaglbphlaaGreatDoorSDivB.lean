import Derived.Test.YtdojfdaglbphlaaGreatDoorSDivR
import Derived.Test.YtdojfdaglbphlaaGreatDoorSDivM
namespace Go.Proofs.YtdojfdaglbphlaaGreatDoor
open Sy Go
set_option maxRecDepth 100000
set_option maxHeartbeats 4000000
set_option linter.unusedSimpArgs false
set_option linter.unusedVariables false
variable {G:qR}
theorem qPU (s:List UInt8) (hd:s.all qH=true) (hl:s.length≤100000):AX Tryz.prog G 92 [.p (.str s)] [] (.ptr 913 0) [] [(913,.vars 109 [.ms 908,.p (.sl 1 ((rowN (s.length+1) (qE s)).map wN)),.nilsl]),(908,.row 156 1 ((rowN (s.length+1) 0).map wN))]:=by
 refine AX.introU tok 900 Tryz.func92 (by kernel_rfl) rfl rfl ?_
 simp only [Tryz.f92,qI,List.map_cons,List.map_nil]
 have hz:(rowN (s.length+1) 0).map wN=List.replicate (s.length+1) (.int .i8 0):=by rw [zHQ]; simp
 have hr:=zLM (G:=G) s (s.length+1) hd (by omega) (by omega)
 generalize (rowN (s.length+1) (qE s)).map wN=R at *
 have hn:((s.length:Int)+1).toNat=s.length+1:=by omega
 rw [hz]
 refine rgn [] [[0]] ?_
 refine op1 tok ?_
 refine qA (rgn [] [[],[],[],[0,3]] ?_)
 iterate 4 refine op1 tok ?_
 refine qA ?_
 refine AW.seqDrawS tok mixed 7 [[3],[7,7],[0],[3],[9,10],[8,11],[12]] [.int .i8 0,.nilp,.sl 1 R] [] (by kernel_rfl) ?_
 iterate 7 refine dq1 hr ?_ (h:=by intro C; conv=>lhs; simp [hn])
 refine DGo.nil (by kernel_rfl) ⟨by kernel_rfl, ?_⟩
 refine qC.run [[2]] ?_
 refine op1 tok ?_ (h:=by intro C; conv=>lhs; simp [hn])
 refine qA ?_
 exact AW.ret wD
theorem qVO (B n v:Nat) (c:UInt8) (out:List UInt8) (hc:qH c=true) (hB:v<B) (hBn:B * 10≤10 ^ n) (h2:2≤n) (hn:n≤1000000) (ho:out.length≤1000000):AX Tryz.prog G 93 [.ptr 701 0,.p (.int .u8 c.toNat)] [(701,.vars 109 [.ms 702,.p (.sl 1 ((rowN n B).map wN)),.ms 703]),(702,.row 156 1 ((rowN n v).map wN)),(703,.row 5 1 (qM out))] (.tuple []) [701,702] [(701,.vars 109 [.ms 702,.p (.sl 1 ((rowN n B).map wN)),.ms 703]),(702,.row 156 1 ((rowN n ((v * 10+dv c) % B)).map wN)),(703,.row 5 1 (qM (out++[UInt8.ofNat (48+(v * 10+dv c) / B)])))]:=by
 refine AX.introU tok 900 Tryz.func93 (by kernel_rfl) rfl rfl ?_
 simp only [Tryz.f93,qI,List.map_cons,List.map_nil]
 have hcd:=(zK c).1 hc
 have hc10:dv c<10:=by simp only [dv]; omega
 have w1:IntKind.u8.wrap ((c.toNat:Int)-48)=(dv c:Nat):=by rw [qBO (by omega) (by omega)]; simp only [dv]; omega
 have w2:IntKind.i8.wrap ((dv c:Nat):Int)=(dv c:Nat):=zEF (by omega) (by omega)
 have hsh:(((rowN n v).map wN).drop 1++((rowN n v).map wN).drop (((rowN n v).map wN).drop 1).length).set (n-1) (.int .i8 (dv c:Nat))=(rowN n (v * 10+dv c)).map wN:=by
  rw [← zCI n v (dv c) (by omega) hc10,List.map_set,List.map_append,List.map_drop,List.map_drop]
  simp only [List.length_drop,List.length_map,yZ]
  rfl
 have hlv:((rowN n v).map wN).length=n:=by simp [yZ]
 have hro:∃ x:Nat,(((rowN n v).map wN).drop 1++((rowN n v).map wN).drop (((rowN n v).map wN).drop 1).length)[n-1]?=some (.int .i8 x):=by
  rw [← List.map_drop,← List.map_drop,← List.map_append,List.getElem?_map]
  have hl:n-1<((rowN n v).drop 1++(rowN n v).drop (((rowN n v).drop 1).map wN).length).length:=by simp [yZ]; omega
  exact ⟨_,by rw [List.getElem?_eq_getElem hl]; rfl⟩
 have hVn:v * 10+dv c<10 ^ n:=by omega
 have hVB:v * 10+dv c<10 * B:=by omega
 obtain ⟨V,hV⟩:∃ V,V=v * 10+dv c:=⟨_,rfl⟩
 rw [← hV] at hsh hVn hVB ⊢
 generalize (rowN n v).map wN=RV at *
 obtain ⟨R2,hR2⟩:∃ R2,R2=RV.drop 1++RV.drop (RV.drop 1).length:=⟨_,rfl⟩
 rw [← hR2] at hsh
 have hl2:R2.length=n:=by rw [hR2]; simp [hlv] <;> omega
 rw [← hR2] at hro
 obtain ⟨o,hro⟩:=hro
 have hnx:((n:Int)-1).toNat=n-1:=by omega
 have hV0:V-0 * B=V:=by omega
 generalize dv c=d at *
 refine AW.seqDrawR mixed 10 [[0],[5],[6],[7],[0],[9],[10],[11],[12],[8,13]] [] (by kernel_rfl) ?_
 iterate 8 refine yA.one tok (orc:=[]) (by intro C; conv=>lhs; simp) (by first | with_reducible exact True.intro | omega | simp | (simp +contextual; omega)) rfl (by kernel_rfl) ?_
 refine yA.y [(702,.row 156 1 RV)] [(702,.row 156 1 RV)] (.tl 702 1 1) true rfl (zSQ tok (z:=1) 1 rfl rfl rfl (by conv=>lhs; simp) trivial (by conv=>lhs; simp) trivial (by conv=>lhs; simp) rfl (by omega) rfl) (fun _=>rfl) (by simp) (by simp) (by kernel_rfl) (by kernel_rfl) (by conv=>lhs; simp) ?_
 refine yA.y [(702,.row 156 1 RV)] [(702,.row 156 1 R2)] (.p (.int .i64 (RV.drop 1).length)) false rfl (zBT tok rfl rfl rfl rfl (by conv=>lhs; simp) trivial (by conv=>lhs; simp) trivial (by conv=>lhs; simp) (by conv=>lhs; simp) rfl (by simp) (by rw [hR2]; rfl)) (by simp) (by simp) (by simp) (by kernel_rfl) (by kernel_rfl) (by conv=>lhs; simp) ?_
 refine yA.nil (by kernel_rfl) ⟨by kernel_rfl, ?_⟩
 refine qC.nil ?_
 refine AW.seqDrawS tok mixed 13 [[0],[15],[16],[17],[0],[19],[20],[21],[22],[23],[1],[25],[26]] [] [.int .i8 (o:Nat),.int .i8 (d:Nat)] (by kernel_rfl) ?_
 iterate 13 refine d1 ?_ (h:=by intro C; conv=>lhs; simp [w1,w2,hnx,hl2]) (hv:=by first | with_reducible exact True.intro | (first | (simp [hl2,hnx]; done) | (simp [hl2,hnx]; omega); done) | omega | simp | (simp +contextual; omega))
 refine DGo.nil (by kernel_rfl) ⟨by kernel_rfl, ?_⟩
 refine qC.run [[],[0]] ?_
 iterate 2 refine op1 tok ?_ (h:=by intro C; conv=>lhs; simp [w1,w2,hnx,hl2]) (hv:=by first | with_reducible exact True.intro | (first | (simp [hl2,hro,hnx]; done) | (simp [hl2,hro,hnx]; omega); done) | omega | simp | (simp +contextual; omega))
 refine qA (rgn [] [[]] ?_)
 refine op1 tok ?_
 refine qA (AW.seq (AW.block ?_))
 refine AW.pinsTo [701,702] (by simp) rfl ?_
 refine AW.loop (α:=Nat) (fun i=>i * B≤V) (fun i=>⟨qV 50 [(0,.ptr 701 0),(4,.p (.int .u8 ((48+i:Nat):Int)))],[701,702],[(701,.vars 109 [.ms 702,.p (.sl 1 ((rowN n B).map wN)),.ms 703]),(702,.row 156 1 ((rowN n (V-i * B)).map wN)),(703,.row 5 1 (qM out))],900⟩) (fun i=>10-i) (0) (by omega) ⟨qB (by simp),rfl,by (simp [hsh,hV0,hnx]),by simp⟩ ?_
 rintro i hi
 have hi10:i<10:=by
  apply Nat.lt_of_not_le; intro h
  have:10 * B≤i * B:=Nat.mul_le_mul_right _ h
  omega
 have hax:=zQZ (G:=G) n (V-i * B) B (by omega) (by omega) hn
 have hnb:(i+1) * B=i * B+B:=by rw [Nat.add_mul,Nat.one_mul]
 have hsub:V-i * B-B=V-(i+1) * B:=by omega
 have hw4:IntKind.u8.wrap (48+(i:Int)+1)=48+((i:Int)+1):=by rw [qBO (by omega) (by omega)]; omega
 refine AW.seq ?_
 by_cases hs3:B≤V-i * B
 ·
  first | rw [if_pos hs3,show decide (B≤V-i * B)=true by simpa using hs3] at hax | rw [if_neg hs3,show decide (B≤V-i * B)=false by simpa using hs3] at hax
  refine AW.seqDrawR mixed 9 [[0],[29],[30],[31],[0],[33],[34],[35],[32,36]] [] (by kernel_rfl) ?_
  iterate 8 refine yA.one tok (orc:=[]) (by intro C; conv=>lhs; simp) (by first | with_reducible exact True.intro | omega | simp | (simp +contextual; omega)) rfl (by kernel_rfl) ?_
  refine yA.call [] hax rfl rfl (by simp) (by simp) (by simp) (by simp) (by simp) (by simp) (by simp) (by kernel_rfl) (by conv=>lhs; simp) ?_
  refine yA.nil (by kernel_rfl) ⟨by kernel_rfl, ?_⟩
  refine qC.nil ?_
  refine cnd ?_ ?_
  ·intro h37
   try simp at h37
   refine AW.skip (AW.block (rgz [.nilp] [[],[],[0,4]] ?_))
   iterate 3 refine op1 tok ?_
   refine qA ?_
   exact ⟨i+1,by omega,by omega,qB (by simp [hsub,hw4]),rfl,by simp [hsub,hw4],by simp [hsub,hw4]⟩
  intro h37
  try simp at h37
 ·
  first | rw [if_pos hs3,show decide (B≤V-i * B)=true by simpa using hs3] at hax | rw [if_neg hs3,show decide (B≤V-i * B)=false by simpa using hs3] at hax
  refine AW.seqDrawR mixed 9 [[0],[29],[30],[31],[0],[33],[34],[35],[32,36]] [] (by kernel_rfl) ?_
  iterate 8 refine yA.one tok (orc:=[]) (by intro C; conv=>lhs; simp) (by first | with_reducible exact True.intro | omega | simp | (simp +contextual; omega)) rfl (by kernel_rfl) ?_
  refine yA.call [] hax rfl rfl (by simp) (by simp) (by simp) (by simp) (by simp) (by simp) (by simp) (by kernel_rfl) (by conv=>lhs; simp) ?_
  refine yA.nil (by kernel_rfl) ⟨by kernel_rfl, ?_⟩
  refine qC.nil ?_
  refine cnd ?_ ?_
  ·intro h37
   try simp at h37
  intro h37
  try simp at h37
  have hq:V / B=i:=by
   rw [Nat.div_eq_iff (by omega)]; omega
  have hm:V % B=V-i * B:=by
   have:=Nat.div_add_mod V B
   rw [hq,Nat.mul_comm] at this; omega
  rw [hq,hm]
  have hq8n:(UInt8.ofNat (48+i)).toNat=48+i:=by rw [UInt8.toNat_ofNat']; omega
  generalize UInt8.ofNat (48+i)=q8 at *
  refine AW.exit ?_
  simp
  refine rgz [.int .u8 (q8.toNat:Int)] [[],[],[],[],[4,40,44],[],[],[40,47],[],[],[50]] ?_
  iterate 11 refine op1 tok ?_ (hv:=by first | with_reducible exact True.intro | (first | (simp; done) | (simp; omega) | omega; done) | omega | simp | (simp +contextual; omega))
  refine qA ?_
  exact zFP
theorem zID (L R:List PD) (out:List UInt8) (ho:out.length≤1000000):AX Tryz.prog G 95 [.ptr 701 0] [(701,.vars 109 [.ms 702,.p (.sl 1 L),.ms 703]),(702,.row 156 1 R),(703,.row 5 1 (qM out))] (.p (.int .i64 (qQ out).length)) [701,702,703] [(701,.vars 109 [.ms 702,.p (.sl 1 L),.ms 703]),(702,.row 156 1 R),(703,.row 5 1 (qM out))]:=by
 refine AX.introU tok 900 Tryz.func95 (by kernel_rfl) rfl rfl ?_
 simp only [Tryz.f95,qI,List.map_cons,List.map_nil]
 have htl:=qAN (G:=G) out 48 (by decide)
 have hsl:(qQ out).length≤out.length:=(List.dropWhile_sublist _).length_le
 rw [show out.dropWhile (fun b=>b == 48)=qQ out from rfl] at htl
 generalize qQ out=t at *
 refine rgn [] [[0]] ?_
 refine op1 tok ?_
 refine qA (rgn [.str out,.nilp,.str t] [[],[],[],[6],[],[],[],[2]] ?_)
 iterate 8 refine oq1 tok htl ?_
 refine qA ?_
 exact AW.ret wD
def zUK:Nat→V
 | 0 => .p .nilp
 | _+1 => .ptr 2 0
@[simp] theorem zVW:zUK 0 = .p .nilp:=rfl
@[simp] theorem zVX (k:Nat):zUK (k+1) = .ptr 2 0:=rfl
theorem zAI:∀ {n k:Nat} (v:Nat),k<n→(zA n v)[n-1-k]?=some (UInt8.ofNat (48+v / 10 ^ k % 10))
 | 0,k,v,h=>by omega
 | n+1,k,v,h=>by
  simp only [zA]
  by_cases e:k=n
  ·subst e; simp
  rw [show n+1-1-k=(n-1-k)+1 by omega,List.getElem?_cons_succ]
  exact zAI v (by omega)
theorem zQG (n v:Nat) (L:List PD) (out:List UInt8) (hn0:1≤n) (hn:n≤1000000):AX Tryz.prog G 100 [.ptr 701 0] [(701,.vars 109 [.ms 702,.p (.sl 1 L),.ms 703]),(702,.row 156 1 ((rowN n v).map wN)),(703,.row 5 1 (qM out))] (.p (.str (zA n v))) [701,702,703] [(701,.vars 109 [.ms 702,.p (.sl 1 L),.ms 703]),(702,.row 156 1 ((rowN n v).map wN)),(703,.row 5 1 (qM out))]:=by
 refine AX.introU tok 900 Tryz.func100 (by kernel_rfl) rfl rfl ?_
 simp only [Tryz.f100,qI,List.map_cons,List.map_nil]
 obtain ⟨T,hT0,hTs,hTn,hTl⟩:∃ T:Nat→List UInt8,T 0=[]∧(∀ k c,(zA n v)[k]?=some c→T (k+1)=T k++[c])∧T n=zA n v∧∀ k,(T k).length≤n :=
  ⟨fun k=>(zA n v).take k,rfl,fun k c h=>by show List.take (k+1) _=_; rw [List.take_add_one,h]; rfl,List.take_of_length_le (by rw [zD]; omega),fun k=>by simp [zD]; omega⟩
 have hgr:=fun k (h:k<n)=>qCU v h
 have hgd:=fun k (h:k<n)=>zAI v h
 have hrl:=yZ n v
 refine rgn [] [[0]] ?_
 refine op1 tok ?_
 refine qA (rgn [] [[]] ?_)
 refine op1 tok ?_
 refine qA (AW.seq ?_)
 refine AW.renE 903 2 (by simp) (by conv=>lhs; simp) ?_
 refine AW.beginBox 2 3 1 5 1 (by simp; exact ⟨rfl,rfl⟩) (by simp) (by simp) (by conv=>lhs; simp) ?_
 refine rgn [] [[],[],[],[3,9],[],[]] ?_
 iterate 6 refine op1 tok ?_
 refine qA (AW.block ?_)
 refine AW.loop (α:=Nat) (fun k=>k≤n) (fun k=>⟨qV 21 [(3,.ptr 2 0),(9,.ms 702),(10,.p (.int .i64 n)),(11,.p (.int .i64 k))],[701,702,703],[(2,.vars 163 [zUK k,.ms 3]),(3,.row 5 1 (qM (T k))),(701,.vars 109 [.ms 702,.p (.sl 1 L),.ms 703]),(702,.row 156 1 ((rowN n v).map wN)),(703,.row 5 1 (qM out))],900⟩) (fun k=>n-k) (0) (by omega) ⟨qB (by simp [hrl]),rfl,by (simp [hT0]),by simp [hT0]⟩ ?_
 rintro k hk
 have hTk:=hTl k
 refine rgn [] [[]] ?_
 refine op1 tok ?_
 refine qA (AW.seq (cnd ?_ ?_))
 ·intro h12
  try simp at h12
  obtain ⟨i,hi,hik⟩:∃ i,i<n∧k=n-1-i:=⟨n-1-k,by omega,by omega⟩
  have hx:=hgr i hi
  have hc:=hgd i hi
  rw [← hik] at hx hc
  have hx10:v / 10 ^ i % 10<10:=Nat.mod_lt _ (by decide)
  generalize v / 10 ^ i % 10=x at *
  have hcw:IntKind.u8.wrap (48+(x:Int))=((UInt8.ofNat (48+x)).toNat:Int):=by rw [kF hx10,qBO (by omega) (by omega)]; omega
  generalize UInt8.ofNat (48+x)=c at *
  have hTs':=hTs k c hc
  have hx':((rowN n v).map wN)[k]?=some (.int .i8 (x:Nat)):=by rw [List.getElem?_map,hx]; rfl
  have hrl':((rowN n v).map wN).length=n:=by simp [hrl]
  generalize (rowN n v).map wN=R at *
  refine AW.skip (AW.seq (AW.block (rgn [.int .i8 (x:Nat)] [[],[],[3,5,9,10,11]] ?_)))
  iterate 3 refine op1 tok ?_ (hv:=by first | with_reducible exact True.intro | (first | (simp [hx',hrl']; done) | (simp [hx',hrl']; omega); done) | omega | simp | (simp +contextual; omega))
  refine qA ?_
  by_cases hs5:k=0
  ·
   first | subst hs5 | (obtain ⟨k',rfl⟩:∃ k',k=k'+1:=⟨k-1,by omega⟩)
   refine rgz [] [[],[],[]] ?_
   iterate 3 refine op1 tok ?_ (h:=by intro C; conv=>lhs; simp [hcw])
   refine qZ ?_
   refine qC.stepK [3,9,10,11] (yS rfl (qRM (T 0) c (by omega)) (by simp)) (by conv=>lhs; simp) rfl ?_
   refine qC.nil ?_
   refine rgz [] [[],[3,9,10,11]] ?_
   iterate 2 refine op1 tok ?_
   refine qA ?_
   exact ⟨0+1,by omega,by omega,qB (by simp [hTs']),rfl,by simp [hTs'],by simp [hTs']⟩
  ·
   first | subst hs5 | (obtain ⟨k',rfl⟩:∃ k',k=k'+1:=⟨k-1,by omega⟩)
   refine rgz [] [[],[],[]] ?_
   iterate 3 refine op1 tok ?_ (h:=by intro C; conv=>lhs; simp [hcw])
   refine qZ ?_
   refine qC.stepK [3,9,10,11] (yS rfl (qWW (T (k'+1)) c (by omega)) (by simp)) (by conv=>lhs; simp) rfl ?_
   refine qC.nil ?_
   refine rgz [] [[],[3,9,10,11]] ?_
   iterate 2 refine op1 tok ?_
   refine qA ?_
   exact ⟨k'+1+1,by omega,by omega,qB (by simp [hTs']),rfl,by simp [hTs'],by simp [hTs']⟩
 intro h12
 try simp at h12
 obtain rfl:k=n:=by omega
 obtain ⟨k',rfl⟩:∃ k',k=k'+1:=⟨k-1,by omega⟩
 rw [hTn]
 refine AW.exit ?_
 simp
 refine AW.seqRegionO [] ?_
 refine qC.stepK [20] (yS rfl (zKE (zA (k'+1) v)) (by simp)) (by conv=>lhs; simp) rfl ?_
 refine qC.run [[2]] ?_
 refine op1 tok ?_
 refine qA ?_
 exact AW.ret wD
end Go.Proofs.YtdojfdaglbphlaaGreatDoor
