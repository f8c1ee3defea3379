import Derived.Test.YtgcbapchinideaaGreatDoorSKeys13
import Derived.Test.YtgcbapchinideaaGreatDoorSSameL
import Derived.Test.YtgcbapchinideaaGreatDoorSTreeLaw
namespace Go.Proofs.YtgcbapchinideaaGreatDoor
open Sy Go
set_option maxRecDepth 100000
set_option maxHeartbeats 4000000
set_option linter.unusedSimpArgs false
set_option linter.unusedVariables false
variable {G:qG}
theorem qRM {ks:List (List UInt8)} (h:ks.Nodup) {i:Nat} {a b:List UInt8} (h1:(wD ks)[i]?=some a) (h2:(wD ks)[i+1]?=some b):Op.bytesLess a b=true:=by
 have hp:(wD ks).Pairwise fun x y=>decide (x≤y)=true:=List.pairwise_mergeSort (fun a b c h1 h2=>by simp at *; exact List.le_trans h1 h2) (fun a b=>by simp; exact List.le_total a b) ks
 have hn:(wD ks).Nodup:=(List.mergeSort_perm ks _).nodup_iff.2 h
 obtain ⟨i1,e1⟩:=List.getElem?_eq_some_iff.1 h1
 obtain ⟨i2,e2⟩:=List.getElem?_eq_some_iff.1 h2
 have hle:=List.pairwise_iff_getElem.1 hp i (i+1) i1 i2 (by omega)
 have hne:=List.pairwise_iff_getElem.1 hn i (i+1) i1 i2 (by omega)
 rw [e1,e2] at hle hne
 rw [bytesLess_eq]
 simp only [decide_eq_true_eq] at hle ⊢
 exact Classical.byContradiction fun hlt=>hne (List.le_antisymm hle (List.not_lt.1 hlt))
theorem qMX {ks:List (List UInt8)} (h:qBP ks=true) {k:List UInt8} (hk:k∈ks):k.length≤4096:=by
 unfold qBP at h
 simp only [Bool.and_eq_true] at h
 exact (qRF (List.all_eq_true.1 h.1 k hk)).2
theorem qPZ {v:Val} (h:kK v=true) (h7:v.kind=7):qBP v.keys=true:=by
 obtain ⟨-, -, hc⟩:=qQA h (by omega)
 rcases hc with h | h | h | h | h | h | h
 ·omega
 ·omega
 ·omega
 ·omega
 ·omega
 ·omega
 exact h.2.2.2.2
theorem uL (k m:Int) (t:List UInt8) (ks:List (List UInt8)) (vs:List Val) (c:Int):(Val.mk k m dc0 t ks vs c).enc = .agg [.int .i64 k,.int .u64 m,.bool false,.str [],.int .i64 0,.str t,.sl 1 (ks.map PD.str),.sl 9 (vs.map Val.enc),.int .i64 c]:=by rw [Val.enc_def]; rfl
theorem qED {s:List UInt8} (h:s.length≤4096) (m:Int):wB s m = .mk 5 m dc0 s [] [] 0:=by unfold wB; rw [if_neg (by omega)]
theorem qFA {l:List Val} (h:l.length≤200) (m:Int):kT l m = .mk 6 m dc0 [] [] l 0:=by unfold kT; rw [if_neg (by omega)]
theorem qTK (v r:Val) (h:AFn Tryz.prog G 32 [.agg [.int .u64 v.mask],v.enc] r.enc):AFn Tryz.prog G 11 [.str [107,101,121,115],.str [],v.enc] r.enc :=
 qBY [107,101,121,115] [] v r ⟨fun h=>absurd h (by decide),fun _=>h,fun h=>absurd h (by decide),fun h=>absurd h (by decide),fun h=>absurd h (by decide),fun h=>absurd h (by decide),fun h=>absurd h (by decide),fun h=>absurd h (by decide),fun h=>absurd h (by decide),fun h=>absurd h (by decide),fun h=>absurd h (by decide),fun h=>absurd (by decide) h⟩
theorem qTJ (v r:Val) (h:AFn Tryz.prog G 31 [.agg [.int .u64 v.mask],v.enc] r.enc):AFn Tryz.prog G 11 [.str [108,101,110,103,116,104],.str [],v.enc] r.enc :=
 qBY [108,101,110,103,116,104] [] v r ⟨fun _=>h,fun h=>absurd h (by decide),fun h=>absurd h (by decide),fun h=>absurd h (by decide),fun h=>absurd h (by decide),fun h=>absurd h (by decide),fun h=>absurd h (by decide),fun h=>absurd h (by decide),fun h=>absurd h (by decide),fun h=>absurd h (by decide),fun h=>absurd h (by decide),fun h=>absurd (by decide) h⟩
theorem qLO (c:List UInt8) (hc:c=[101,110,116,114,105,101,115]∨c=[104,97,115]) (s:List UInt8) (v r:Val) (h:AFn Tryz.prog G 44 [.agg [.int .u64 v.mask],.str c,.str s,v.enc] r.enc):AFn Tryz.prog G 11 [.str c,.str s,v.enc] r.enc:=by
 rcases hc with rfl | rfl <;> exact qBY _ s v r ⟨fun h=>absurd h (by decide),fun h=>absurd h (by decide),fun h=>absurd h (by decide),fun h=>absurd h (by decide),fun h=>absurd h (by decide),fun h=>absurd h (by decide),fun h=>absurd h (by decide),fun _=>h,fun h=>absurd h (by decide),fun h=>absurd h (by decide),fun h=>absurd h (by decide),fun h=>absurd (by decide) h⟩
theorem qJH (l:List Item) (s:List UInt8) (hl:∀ x∈l,x.keys.length≤140737488351232):AFn Tryz.prog G 8 [.sl 6 (l.map Item.enc),.str s] (.bool true):=by
 refine AFn.introU tok Tryz.func8 (by kernel_rfl) rfl rfl ?_
 simp only [Tryz.f8,qN,List.map_cons,List.map_nil]
 have hsh:=qMJ (G:=G)
 have hbl:=qTZ (G:=G) l hl
 have mv:=qQS l
 have har:=qTM (G:=G) s
 generalize vN l=v at *
 generalize qTN s=a at *
 have hsm:=qCM mv
 simp only [Val.enc_def] at hbl
 refine rgn [] [[0,1]] ?_
 refine op1 tok ?_
 refine qA (rgn [.nilp,.bool true] [[],[0,1,5]] ?_)
 iterate 2 refine oq1 tok hsh ?_
 refine qA (rgn [.nilp,v.enc] [[],[],[],[1,5,6]] ?_)
 iterate 4 refine oq1 tok hbl ?_
 refine qA (AW.seq (rgn [] [[],[],[1,5,6,19]] ?_))
 iterate 3 refine op1 tok ?_
 refine qA (cnd ?_ ?_)
 ·intro h19
  try simp at h19
  refine rgn [] [[],[4]] ?_
  iterate 2 refine op1 tok ?_
  exact qA (AW.ret qI)
 intro h19
 try simp at h19
 have h7:v.kind=7:=by simpa using h19
 obtain ⟨hlen,hl2,hnd⟩:=qOH mv h7
 have hkt:=qPZ mv h7
 have hwd:∀ k∈v.keys,k.length≤4096:=fun k hk=>qMX hkt hk
 have ck:=qTK (G:=G) v _ (qSB v v.mask (by omega) (by omega))
 have ce:=qLO (G:=G) [101,110,116,114,105,101,115] (.inl rfl) [] v _ (qKP [] v v.mask (fun _=>hlen) (by omega) fun x hx=>qUZ x (qDZ mv hx))
 have cl:=qTJ (G:=G) v _ (qQC (fun _=>0) v v.mask (fun h=>by omega) (by omega))
 have ch:=fun t=>qLO (G:=G) [104,97,115] (.inr rfl) t v _ (qUR t v v.mask)
 have e1:qOO v v.mask = .mk 6 v.mask dc0 [] [] ((wD v.keys).map fun t => .mk 5 0 dc0 t [] [] 0) 0:=by
  unfold qOO
  rw [if_pos h7,qFA (by simp [uU]; omega)]
  congr 1
  exact List.map_congr_left fun t ht=>qED (hwd t (qGR.1 ht)) 0
 have e2:qBU v v.mask = .mk 6 v.mask dc0 [] [] (zP v) 0:=by
  unfold qBU
  rw [if_pos h7,qFA (by simp [zP]; omega)]
 have e3:qIQ (fun _=>0) v v.mask = .mk 4 v.mask (xI v.kids.length) [] [] [] 0:=by
  unfold qIQ
  rw [if_neg (by omega),if_neg (by omega),if_pos (.inr h7)]; rfl
 have e4:∀ t,qUX t v v.mask = .mk (if t∈v.keys then 3 else 2) v.mask dc0 [] [] [] 0:=fun t=>by
  unfold qUX vX
  rw [if_pos h7]; simp
 rw [e1] at ck
 rw [e2] at ce
 rw [e3] at cl
 simp only [e4] at ch
 have hdg:=qLE (G:=G) v.keys.length (by omega)
 rw [← qSL (n:=v.keys.length) (by omega)] at hdg
 rw [← hlen] at cl
 generalize xI (v.keys.length:Int)=D at *
 have hsl:=uU v.keys
 have hsg:∀ (i:Nat) t,(wD v.keys)[i]?=some t→(((wD v.keys).map fun t=>Val.mk 5 0 dc0 t [] [] 0).map Val.enc)[i]?=some (Val.mk 5 0 dc0 t [] [] 0).enc:=fun i t h=>by rw [List.getElem?_map,List.getElem?_map,h]; rfl
 have hlt:=fun i a b=>qRM hnd (i:=i) (a:=a) (b:=b)
 have hmm:∀ t,t∈wD v.keys↔t∈v.keys:=fun t=>qGR
 have heg:∀ (i:Nat) t x,v.keys[i]?=some t→v.kids[i]?=some x→((zP v).map Val.enc)[i]?=some (wO t x).enc:=fun i t x h1 h2=>by rw [List.getElem?_map]; unfold zP; rw [List.getElem?_zipWith,h1,h2]; rfl
 have hel:(zP v).length=v.keys.length:=by simp [zP,hlen]
 have hkl:(((wD v.keys).map fun t=>Val.mk 5 0 dc0 t [] [] 0).map Val.enc).length=v.keys.length:=by simp [hsl]
 have hel2:((zP v).map Val.enc).length=v.keys.length:=by rw [List.length_map,hel]
 rw [uL] at ck
 rw [uL] at ce
 generalize hks:wD v.keys=ks at *
 generalize (ks.map fun t=>Val.mk 5 0 dc0 t [] [] 0).map Val.enc=KE at *
 generalize (zP v).map Val.enc=EE at *
 simp only [List.map_nil,Val.enc_def v] at ck ce ch
 simp only [Val.enc_def,Dc.enc] at cl
 refine AW.skip (rgn [.nilp,.agg [.int .i64 6,.int .u64 v.mask,.bool false,.str [],.int .i64 0,.str [],.sl 1 [],.sl 9 KE,.int .i64 0]] [[],[],[],[1,5,6,7]] ?_)
 iterate 4 refine oq1 tok ck ?_
 refine qA (rgn [.nilp,.agg [.int .i64 6,.int .u64 v.mask,.bool false,.str [],.int .i64 0,.str [],.sl 1 [],.sl 9 EE,.int .i64 0]] [[],[],[],[1,5,6,7,8]] ?_)
 iterate 4 refine oq1 tok ce ?_
 refine qA (rgn [.nilp,(Val.mk 4 v.mask D [] [] [] 0).enc] [[],[],[],[1,5,6,7,8,9]] ?_)
 iterate 4 refine op1 tok ?_ (hv:=by first | with_reducible exact True.intro | (first | exact cl | (simp at cl ⊢; exact cl); done) | omega | simp | (simp +contextual; omega))
 refine qA (AW.seq ?_)
 refine AW.seqDrawS tok mixed 26 [[7],[27],[28],[6],[30],[31],[29,32],[33],[8,34],[35,34],[36,34],[6,34],[38,34],[39,34],[37,40,34],[34,41],[42],[9,43],[44,43],[45,43],[6,43],[47,43],[48,43],[49,43],[46,50,43],[43,51]] [.nilp,.str D.digits] [] (by kernel_rfl) ?_
 iterate 8 refine d1 ?_ (h:=by intro C; conv=>lhs; simp [hkl,hel2]) (hv:=by first | with_reducible exact True.intro | (first | (intro g1 g2; exact ⟨⟨g1,g2⟩,hdg⟩) | (simp; done); done) | omega | simp | (simp +contextual; omega))
 iterate 7 refine d2 34 rfl rfl ?_ (h:=by intro C; conv=>lhs; simp [hkl,hel2]) (hv:=by first | with_reducible exact True.intro | (first | (intro g1 g2; exact ⟨⟨g1,g2⟩,hdg⟩) | (simp; done); done) | omega | simp | (simp +contextual; omega))
 iterate 2 refine d1 ?_ (h:=by intro C; conv=>lhs; simp [hkl,hel2]) (hv:=by first | with_reducible exact True.intro | (first | (intro g1 g2; exact ⟨⟨g1,g2⟩,hdg⟩) | (simp; done); done) | omega | simp | (simp +contextual; omega))
 iterate 8 refine d2 43 rfl rfl ?_ (h:=by intro C; conv=>lhs; simp [hkl,hel2]) (hv:=by first | with_reducible exact True.intro | (first | (intro g1 g2; exact ⟨⟨g1,g2⟩,hdg⟩) | (simp; done); done) | omega | simp | (simp +contextual; omega))
 refine d1 ?_ (h:=by intro C; conv=>lhs; simp [hkl,hel2]) (hv:=by first | with_reducible exact True.intro | (first | (intro g1 g2; exact ⟨⟨g1,g2⟩,hdg⟩) | (simp; done); done) | omega | simp | (simp +contextual; omega))
 refine DGo.nil (by kernel_rfl) ⟨by kernel_rfl, ?_⟩
 refine qH.nil ?_
 refine cnd ?_ ?_
 ·intro h52
  try simp at h52
 intro h52
 try simp at h52
 refine AW.skip (rgn [] [[]] ?_)
 refine op1 tok ?_
 refine qA (AW.seq (rgn [] [[]] ?_))
 refine op1 tok ?_
 refine qA (AW.block ?_)
 refine AW.loop (α:=Nat) (fun i=>i≤v.keys.length) (fun i=>⟨qV 157 [(1,.p (.str s)),(5,.p (.bool true)),(6,.ptr 6 0),(7,.ptr 7 0),(8,.ptr 8 0),(10,.p (.bool (decide (a∈ks.take i)))),(11,.p (.int .i64 i))],[],[(6,.vars 31 v.cells),(7,.vars 31 [.p (.int .i64 6),.p (.int .u64 v.mask),.p (.bool false),.p (.str []),.p (.int .i64 0),.p (.str []),.p (.sl 1 []),.p (.sl 9 KE),.p (.int .i64 0)]),(8,.vars 31 [.p (.int .i64 6),.p (.int .u64 v.mask),.p (.bool false),.p (.str []),.p (.int .i64 0),.p (.str []),.p (.sl 1 []),.p (.sl 9 EE),.p (.int .i64 0)])],0⟩) (fun i=>v.keys.length-i) (0) (by omega) ⟨qD (by simp),rfl,by simp,by simp⟩ ?_
 rintro i hi
 refine AW.seq (rgn [] [[],[],[],[],[1,5,6,7,8,10,11,57]] ?_)
 iterate 5 refine op1 tok ?_ (h:=by intro C; conv=>lhs; simp [hkl])
 refine qA (cnd ?_ ?_)
 ·intro h57
  try simp at h57
  obtain ⟨t,ht⟩:∃ t,ks[i]?=some t:=⟨ks[i]'(by omega),by simp [show i<ks.length by omega]⟩
  obtain ⟨k,hk⟩:∃ t,v.keys[i]?=some t:=⟨v.keys[i]'(by omega),by simp [show i<v.keys.length by omega]⟩
  obtain ⟨x,hx⟩:∃ t,v.kids[i]?=some t:=⟨v.kids[i]'(by omega),by simp [show i<v.kids.length by omega]⟩
  have hkt1:=hsg i t ht
  have het:=heg i k x hk hx
  have hin:t∈v.keys:=(hmm t).1 (List.mem_of_getElem? ht)
  have cht:=ch t
  rw [if_pos hin,uL] at cht
  have htk:ks.take (i+1)=ks.take i++[t]:=by rw [List.take_add_one,ht]; rfl
  have hsame:=qML (G:=G) x (qDZ mv (List.mem_of_getElem? hx)) x
  rw [qPP] at hsame
  simp only [Val.enc_def] at hsame
  simp only [List.map_nil] at cht
  obtain ⟨t0,hp0⟩:∃ t0,0<i→KE[i-1]?=some (Val.mk 5 0 dc0 t0 [] [] 0).enc∧Op.bytesLess t0 t=true:=by
   by_cases h0:0<i
   ·obtain ⟨t0,ht0⟩:∃ t,ks[i-1]?=some t:=⟨ks[i-1]'(by omega),by simp [show i-1<ks.length by omega]⟩
    exact ⟨t0,fun _=>⟨hsg _ t0 ht0,hlt (i-1) t0 t ht0 (by rw [show i-1+1=i by omega]; exact ht)⟩⟩
   exact ⟨[],fun h=>absurd h h0⟩
  have hek:wO k x = .mk 7 0 dc0 [] [[107,101,121],[118,97,108,117,101]] [.mk 5 0 dc0 k [] [] 0,x] 0:=by
   unfold wO; rw [qED (hwd k (List.mem_of_getElem? hk))]
  rw [hek,uL] at het
  simp only [List.map_cons,List.map_nil] at het
  have hw5:=uL 5 0 k [] [] 0
  have ht5:=uL 5 0 t [] [] 0
  have h05:=uL 5 0 t0 [] [] 0
  simp only [hw5,List.map_cons,List.map_nil] at het
  rw [ht5] at hkt1
  rw [h05] at hp0
  simp only [List.map_nil] at hkt1 hp0
  try simp only [Val.enc_def x] at het
  have hxx:(v.kids.map Val.enc)[i]?=some x.enc:=by rw [List.getElem?_map,hx]; rfl
  rw [Val.enc_def x] at hxx
  have hfnd:(decide (a∈ks.take i) || decide (t=a))=decide (a∈ks.take (i+1)):=by rw [htk]; simp [eq_comm]
  refine AW.skip (AW.seq (AW.block ?_))
  refine AW.seqDrawS tok mixed 9 [[7],[60],[11],[61,62],[63],[64],[6],[65,66],[]] [.agg [.int .i64 5,.int .u64 0,.bool false,.str [],.int .i64 0,.str t,.sl 1 [],.sl 9 [],.int .i64 0],.nilp,.agg [.int .i64 3,.int .u64 v.mask,.bool false,.str [],.int .i64 0,.str [],.sl 1 [],.sl 9 [],.int .i64 0]] [] (by kernel_rfl) ?_
  iterate 9 refine d1 ?_ (hv:=by first | with_reducible exact True.intro | (first | exact hkt1 | exact cht | (simp [hkt1]; done) | (simp [hkt1]; omega); done) | omega | simp | (simp +contextual; omega))
  refine DGo.nil (by kernel_rfl) ⟨by kernel_rfl, ?_⟩
  refine qH.run [[1,5,6,7,8,10,11,12]] ?_
  refine op1 tok ?_
  refine qA ?_
  refine AW.seqDrawS tok mixed 12 [[10],[68],[7,69],[70,69],[11,69],[71,72,69],[73,69],[74,69],[1,69],[76,69],[75,77,69],[69,78]] [.agg [.int .i64 5,.int .u64 0,.bool false,.str [],.int .i64 0,.str t,.sl 1 [],.sl 9 [],.int .i64 0],.nilp,.str a] [] (by kernel_rfl) ?_
  iterate 2 refine d1 ?_ (hv:=by first | with_reducible exact True.intro | (first | exact hkt1 | exact har | (intro g1; first | exact hkt1 | exact har | exact ⟨g1,hkt1⟩ | exact ⟨g1,har⟩) | (simp [hkt1]; done) | (simp [hkt1]; omega); done) | omega | simp | (simp +contextual; omega))
  iterate 9 refine d2 69 rfl rfl ?_ (hv:=by first | with_reducible exact True.intro | (first | exact hkt1 | exact har | (intro g1; first | exact hkt1 | exact har | exact ⟨g1,hkt1⟩ | exact ⟨g1,har⟩) | (simp [hkt1]; done) | (simp [hkt1]; omega); done) | omega | simp | (simp +contextual; omega))
  refine d1 ?_ (hv:=by first | with_reducible exact True.intro | (first | exact hkt1 | exact har | (intro g1; first | exact hkt1 | exact har | exact ⟨g1,hkt1⟩ | exact ⟨g1,har⟩) | (simp [hkt1]; done) | (simp [hkt1]; omega); done) | omega | simp | (simp +contextual; omega))
  refine DGo.nil (by kernel_rfl) ⟨by kernel_rfl, ?_⟩
  refine qH.run [[1,5,6,7,8,10,11,12]] ?_
  refine op1 tok ?_
  refine qA (AW.seq ?_)
  refine AW.seqDrawS tok mixed 50 [[12],[80],[81],[82],[11,83],[84,83],[85,83],[7,86],[87,86],[11,86],[89,86],[88,90,86],[91,86],[92,86],[7,86],[94,86],[11,86],[95,96,86],[97,86],[98,86],[93,99,86],[86,100,83],[83,101],[102],[8,103],[104,103],[11,103],[105,106,103],[107,103],[108,103],[109,103],[110,103],[103,111],[112],[8,113],[114,113],[11,113],[115,116,113],[117,113],[118,113],[119,113],[120,113],[121,113],[6,113],[123,113],[11,113],[124,125,113],[126,113],[122,127,113],[113,128]] [.agg [.int .i64 5,.int .u64 0,.bool false,.str [],.int .i64 0,.str t0,.sl 1 [],.sl 9 [],.int .i64 0],.agg [.int .i64 5,.int .u64 0,.bool false,.str [],.int .i64 0,.str t,.sl 1 [],.sl 9 [],.int .i64 0],.agg [.int .i64 7,.int .u64 0,.bool false,.str [],.int .i64 0,.str [],.sl 1 [.str [107,101,121],.str [118,97,108,117,101]],.sl 9 [.agg [.int .i64 5,.int .u64 0,.bool false,.str [],.int .i64 0,.str k,.sl 1 [],.sl 9 [],.int .i64 0],x.enc],.int .i64 0],.agg [.int .i64 7,.int .u64 0,.bool false,.str [],.int .i64 0,.str [],.sl 1 [.str [107,101,121],.str [118,97,108,117,101]],.sl 9 [.agg [.int .i64 5,.int .u64 0,.bool false,.str [],.int .i64 0,.str k,.sl 1 [],.sl 9 [],.int .i64 0],x.enc],.int .i64 0],.agg [.int .i64 5,.int .u64 0,.bool false,.str [],.int .i64 0,.str k,.sl 1 [],.sl 9 [],.int .i64 0],.str k] [] (by kernel_rfl) ?_
  iterate 4 refine d1 ?_ (hv:=by first | with_reducible exact True.intro | (first | exact hkt1 | exact het | (intro g1; first | exact ⟨g1,het⟩ | exact ⟨g1,by simp [hk]⟩ | exact ⟨g1,hkt1⟩ | exact ⟨g1,by omega,(hp0 g1).1⟩) | (intros; grind); done) | omega | simp | (simp +contextual; omega))
  iterate 3 refine d2 83 rfl rfl ?_ (hv:=by first | with_reducible exact True.intro | (first | exact hkt1 | exact het | (intro g1; first | exact ⟨g1,het⟩ | exact ⟨g1,by simp [hk]⟩ | exact ⟨g1,hkt1⟩ | exact ⟨g1,by omega,(hp0 g1).1⟩) | (intros; grind); done) | omega | simp | (simp +contextual; omega))
  iterate 14 refine d2 86 rfl rfl ?_ (hv:=by first | with_reducible exact True.intro | (first | exact hkt1 | exact het | (intro g1; first | exact ⟨g1,het⟩ | exact ⟨g1,by simp [hk]⟩ | exact ⟨g1,hkt1⟩ | exact ⟨g1,by omega,(hp0 g1).1⟩) | (intros; grind); done) | omega | simp | (simp +contextual; omega))
  refine d2 83 rfl rfl ?_ (hv:=by first | with_reducible exact True.intro | (first | exact hkt1 | exact het | (intro g1; first | exact ⟨g1,het⟩ | exact ⟨g1,by simp [hk]⟩ | exact ⟨g1,hkt1⟩ | exact ⟨g1,by omega,(hp0 g1).1⟩) | (intros; grind); done) | omega | simp | (simp +contextual; omega))
  iterate 2 refine d1 ?_ (hv:=by first | with_reducible exact True.intro | (first | exact hkt1 | exact het | (intro g1; first | exact ⟨g1,het⟩ | exact ⟨g1,by simp [hk]⟩ | exact ⟨g1,hkt1⟩ | exact ⟨g1,by omega,(hp0 g1).1⟩) | (intros; grind); done) | omega | simp | (simp +contextual; omega))
  iterate 8 refine d2 103 rfl rfl ?_ (hv:=by first | with_reducible exact True.intro | (first | exact hkt1 | exact het | (intro g1; first | exact ⟨g1,het⟩ | exact ⟨g1,by simp [hk]⟩ | exact ⟨g1,hkt1⟩ | exact ⟨g1,by omega,(hp0 g1).1⟩) | (intros; grind); done) | omega | simp | (simp +contextual; omega))
  iterate 2 refine d1 ?_ (hv:=by first | with_reducible exact True.intro | (first | exact hkt1 | exact het | (intro g1; first | exact ⟨g1,het⟩ | exact ⟨g1,by simp [hk]⟩ | exact ⟨g1,hkt1⟩ | exact ⟨g1,by omega,(hp0 g1).1⟩) | (intros; grind); done) | omega | simp | (simp +contextual; omega))
  iterate 15 refine d2 113 rfl rfl ?_ (hv:=by first | with_reducible exact True.intro | (first | exact hkt1 | exact het | (intro g1; first | exact ⟨g1,het⟩ | exact ⟨g1,by simp [hk]⟩ | exact ⟨g1,hkt1⟩ | exact ⟨g1,by omega,(hp0 g1).1⟩) | (intros; grind); done) | omega | simp | (simp +contextual; omega))
  refine d1 ?_ (hv:=by first | with_reducible exact True.intro | (first | exact hkt1 | exact het | (intro g1; first | exact ⟨g1,het⟩ | exact ⟨g1,by simp [hk]⟩ | exact ⟨g1,hkt1⟩ | exact ⟨g1,by omega,(hp0 g1).1⟩) | (intros; grind); done) | omega | simp | (simp +contextual; omega))
  refine DGo.nil (by kernel_rfl) ⟨by kernel_rfl, ?_⟩
  refine qH.nil ?_
  refine cnd ?_ ?_
  ·intro h129
   try simp at h129
   exfalso; grind
  intro h129
  try simp at h129
  refine AW.skip ?_
  refine AW.seqDrawS tok mixed 14 [[8],[130],[11],[131,132],[133],[134],[135],[136],[6],[138],[11],[139,140],[141],[137,142]] [.agg [.int .i64 7,.int .u64 0,.bool false,.str [],.int .i64 0,.str [],.sl 1 [.str [107,101,121],.str [118,97,108,117,101]],.sl 9 [.agg [.int .i64 5,.int .u64 0,.bool false,.str [],.int .i64 0,.str k,.sl 1 [],.sl 9 [],.int .i64 0],x.enc],.int .i64 0],x.enc,x.enc,.nilp,.bool true] [] (by kernel_rfl) ?_
  iterate 14 refine d1 ?_ (hv:=by first | with_reducible exact True.intro | (first | exact het | exact hsame | exact hxx | exact ⟨x,hx,rfl,rfl,rfl,rfl,rfl,rfl,rfl,rfl,rfl⟩ | (simp; done) | (simp [hx]; done) | (simp at hxx ⊢; exact hxx); done) | omega | simp | (simp +contextual; omega))
  refine DGo.nil (by kernel_rfl) ⟨by kernel_rfl, ?_⟩
  refine qH.run [[1,5,6,7,8,10,11,13]] ?_
  refine op1 tok ?_
  refine qA (rgn [] [[],[1,5,6,7,8,10,11,145]] ?_)
  iterate 2 refine op1 tok ?_
  refine qA (cnd ?_ ?_)
  ·intro h145
   try simp at h145
  intro h145
  try simp at h145
  refine AW.skip (rgz [] [[],[],[1,5,6,7,8,10,11]] ?_)
  iterate 3 refine op1 tok ?_
  refine qA ?_
  exact ⟨i+1,by omega,by omega,qD (by simp [hfnd]),rfl,by simp [hfnd],by simp [hfnd]⟩
 intro h57
 try simp at h57
 obtain rfl:i=v.keys.length:=by omega
 have hall:ks.take v.keys.length=ks:=List.take_of_length_le (by omega)
 rw [hall]
 have cha:=ch a
 rw [uL] at cha
 simp only [List.map_nil] at cha
 have hmm:=hmm a
 refine AW.exit ?_
 simp
 refine AW.seqDrawS tok mixed 11 [[5],[146],[1,147],[148,147],[6,147],[149,150,147],[151,147],[152,147],[10,147],[153,154,147],[147,155]] [.nilp,.str a,.nilp,.agg [.int .i64 (if a∈v.keys then 3 else 2),.int .u64 v.mask,.bool false,.str [],.int .i64 0,.str [],.sl 1 [],.sl 9 [],.int .i64 0]] [] (by kernel_rfl) ?_
 iterate 2 refine dq1 (ai har cha) ?_
 iterate 8 refine dq2 147 rfl rfl (ai har cha) ?_
 refine dq1 (ai har cha) ?_
 refine DGo.nil (by kernel_rfl) ⟨by kernel_rfl, ?_⟩
 refine qH.run [[4]] ?_
 refine op1 tok ?_
 refine qA ?_
 exact AW.ret (qI (k:=by (by_cases h:a∈v.keys <;> simp [h,hmm])))
end Go.Proofs.YtgcbapchinideaaGreatDoor
