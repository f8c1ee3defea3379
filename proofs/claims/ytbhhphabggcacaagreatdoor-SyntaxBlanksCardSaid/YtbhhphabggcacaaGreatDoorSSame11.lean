import Derived.Test.YtbhhphabggcacaaGreatDoorK1
import Derived.Test.YtbhhphabggcacaaGreatDoorM3
namespace Go.Proofs.YtbhhphabggcacaaGreatDoor
open Sy Go
set_option maxRecDepth 100000
set_option maxHeartbeats 4000000
set_option linter.unusedSimpArgs false
set_option linter.unusedVariables false
variable {G:qS}
theorem qHQ {α:Type} {l m:List α} {k:Nat} {x y:α} (h:l.take k=m.take k) (hx:l[k]?=some x) (hy:m[k]?=some y) (e:x=y):l.take (k+1)=m.take (k+1):=by
 rw [List.take_add_one,List.take_add_one,h,hx,hy,e]
theorem zKN {x y:Nd} (g1:x.op=y.op) (g2:x.n=y.n) (g3:x.text=y.text) (g4:x.num.neg=y.num.neg) (g5:x.num.digits=y.num.digits) (g6:x.num.scale=y.num.scale) (e1:x.keys=y.keys) (e2:x.kids=y.kids):x=y:=by
 obtain ⟨a1,a2,a3,⟨a4,a5,a6⟩,a7,a8⟩:=x
 obtain ⟨b1,b2,b3,⟨b4,b5,b6⟩,b7,b8⟩:=y
 simp only at *
 rw [g1,g2,g3,g4,g5,g6,e1,e2]
theorem qOW (l m:List Nd) (hkb:∀ x∈l,x.keys.length≤1000000∧x.kids.length≤1000000) (hlb:l.length≤1000000):AFn Tryz.prog G 9 [.sl 8 (l.map Nd.enc),.sl 8 (m.map Nd.enc)] (.bool (decide (l=m))):=by
 refine AFn.introU tok Tryz.func9 (by kernel_rfl) rfl rfl ?_
 simp only [Tryz.f9,qN,List.map_cons,List.map_nil]
 have hle:(l.map Nd.enc).length=l.length:=by simp
 have hme:(m.map Nd.enc).length=m.length:=by simp
 have hgl:∀ (i:Nat) x,l[i]?=some x→(l.map Nd.enc)[i]?=some x.enc:=fun i x h=>by rw [List.getElem?_map,h]; rfl
 have hgm:∀ (i:Nat) x,m[i]?=some x→(m.map Nd.enc)[i]?=some x.enc:=fun i x h=>by rw [List.getElem?_map,h]; rfl
 generalize l.map Nd.enc=LE at *
 generalize m.map Nd.enc=ME at *
 refine rgn [] [[0,1]] ?_
 refine op1 tok ?_
 refine qA (AW.seq (rgn [] [[],[],[],[],[0,1,14]] ?_))
 iterate 5 refine op1 tok ?_ (h:=by intro C; conv=>lhs; simp [hle,hme])
 refine qA (cnd ?_ ?_)
 ·intro h14
  try simp at h14
  rw [decide_eq_false (fun e=>h14 (by rw [e]))]
  refine rgn [] [[]] ?_
  refine op1 tok ?_
  exact qA (AW.ret qX)
 intro h14
 try simp at h14
 have hlm:l.length=m.length:=by omega
 refine AW.skip (AW.seq (rgn [] [[]] ?_))
 refine op1 tok ?_
 refine qA (AW.block ?_)
 refine AW.loop (α:=Nat) (fun i=>i≤l.length∧l.take i=m.take i) (fun i=>⟨wL 109 [(0,.p (.sl 8 LE)),(1,.p (.sl 8 ME)),(5,.p (.int .i64 i))],[],[],0⟩) (fun i=>l.length-i) (0) ⟨by omega,rfl⟩ ⟨qH (by simp),rfl,by simp,by simp⟩ ?_
 rintro i ⟨hi,ht⟩
 refine AW.seq (rgn [] [[],[],[],[0,1,5,18]] ?_)
 iterate 4 refine op1 tok ?_ (h:=by intro C; conv=>lhs; simp [hle])
 refine qA (cnd ?_ ?_)
 ·intro h18
  try simp at h18
  obtain ⟨x,hx⟩:∃ x,l[i]?=some x:=⟨l[i]'(by omega),by simp [show i<l.length by omega]⟩
  obtain ⟨y,hy⟩:∃ y,m[i]?=some y:=⟨m[i]'(by omega),by simp [show i<m.length by omega]⟩
  have hxe:=hgl i x hx
  obtain ⟨hb1,hb2⟩:=hkb x (List.mem_of_getElem? hx)
  have hye:=hgm i y hy
  have hne:x≠y→decide (l=m)=false:=fun h=>decide_eq_false (fun e=>h (by rw [e,hy] at hx; exact (Option.some.inj hx).symm))
  refine AW.skip (AW.seq (AW.block (rgn [x.enc] [[],[],[],[],[],[0,1,5,6]] ?_)))
  iterate 6 refine op1 tok ?_ (hv:=by first | with_reducible exact True.intro | (first | exact hxe | (simp [hxe]; done) | (simp; omega); done) | omega | simp | (simp +contextual; omega))
  refine qA (rgn [y.enc] [[],[],[],[],[],[0,1,5,6,7]] ?_)
  iterate 6 refine op1 tok ?_ (hv:=by first | with_reducible exact True.intro | (first | exact hye | (simp [hye]; done) | (simp; omega); done) | omega | simp | (simp +contextual; omega))
  refine qA (AW.seq (rgn [] [[],[],[],[],[0,1,5,6,7,33],[],[],[],[],[],[0,1,5,6,7,34,39],[],[],[],[0,1,5,6,7,41,43],[],[],[],[0,1,5,6,7,47],[],[],[],[],[],[0,1,5,6,7,48,53],[],[],[],[0,1,5,6,7,55,57],[],[],[],[],[0,1,5,6,7,55,62],[],[],[],[0,1,5,6,7,64,66],[],[],[],[],[0,1,5,6,7,64,71],[0,1,5,6,7,72]] ?_))
  iterate 44 first | refine op1 tok ?_ | refine op2 tok ?_
  refine qA (cnd ?_ ?_)
  ·intro h72
   try simp at h72
   rw [hne (by rintro rfl; simp at h72)]
   refine rgn [] [[]] ?_
   refine op1 tok ?_
   exact qA (AW.ret qX)
  intro h72
  try simp at h72
  obtain ⟨⟨⟨⟨⟨g1,g2⟩,g3⟩,g4,g5,g6⟩,g7⟩,g8⟩:=h72
  have gk:x.keys.length=y.keys.length:=by omega
  have gv:x.kids.length=y.kids.length:=by omega
  have heq:x.keys=y.keys→x.kids=y.kids→x=y:=zKN g1 g2 g3 g4 g5 g6
  refine AW.skip (AW.seq (rgn [] [[]] ?_))
  refine op1 tok ?_
  refine qA (AW.block ?_)
  refine AW.loop (α:=Nat) (fun k=>k≤x.keys.length∧x.keys.take k=y.keys.take k) (fun k=>⟨wL 109 [(0,.p (.sl 8 LE)),(1,.p (.sl 8 ME)),(5,.p (.int .i64 i)),(6,.ptr 6 0),(7,.ptr 7 0),(8,.p (.int .i64 k))],[],[(6,.vars 36 x.cells),(7,.vars 36 y.cells)],0⟩) (fun k=>x.keys.length-k) (0) ⟨by omega,rfl⟩ ⟨qH (by simp),rfl,by simp,by simp⟩ ?_
  rintro k ⟨hk,htk⟩
  refine AW.seq (rgn [] [[],[],[],[],[0,1,5,6,7,8,77]] ?_)
  iterate 5 refine op1 tok ?_
  refine qA (cnd ?_ ?_)
  ·intro h77
   try simp at h77
   obtain ⟨a,ha⟩:∃ a,x.keys[k]?=some a:=⟨x.keys[k]'(by omega),by simp [show k<x.keys.length by omega]⟩
   obtain ⟨b,hb⟩:∃ b,y.keys[k]?=some b:=⟨y.keys[k]'(by omega),by simp [show k<y.keys.length by omega]⟩
   refine AW.skip (AW.seq (AW.block ?_))
   refine AW.seqDrawS tok mixed 11 [[6],[80],[8],[81,82],[83],[7],[85],[8],[86,87],[88],[84,89]] [.str a,.str b] [] (by kernel_rfl) ?_
   iterate 11 refine d1 ?_ (hv:=by first | with_reducible exact True.intro | (first | exact ha | exact hb | (simp [ha]; done) | (simp [hb]; done) | (simp [ha]; omega) | (simp [hb]; omega); done) | omega | simp | (simp +contextual; omega))
   refine DGo.nil (by kernel_rfl) ⟨by kernel_rfl, ?_⟩
   refine qB.nil ?_
   refine cnd ?_ ?_
   ·intro h90
    try simp at h90
    rw [hne (fun e=>h90 (by subst e; rw [ha] at hb; exact Option.some.inj hb))]
    refine rgn [] [[]] ?_
    refine op1 tok ?_
    exact qA (AW.ret qX)
   intro h90
   try simp at h90
   have htk2:=qHQ htk ha hb h90
   refine AW.skip (rgz [] [[],[],[0,1,5,6,7,8]] ?_)
   iterate 3 refine op1 tok ?_
   refine qA ?_
   exact ⟨k+1,⟨by omega,htk2⟩,by omega,qH (by simp),rfl,by simp,by simp⟩
  intro h77
  try simp at h77
  obtain rfl:k=x.keys.length:=by omega
  have hkeys:x.keys=y.keys:=by rw [List.take_length,gk,List.take_length] at htk; exact htk
  refine AW.exit ?_
  simp
  refine rgn [] [[]] ?_
  refine op1 tok ?_
  refine qA (AW.block ?_)
  refine AW.loop (α:=Nat) (fun k=>k≤x.kids.length∧x.kids.take k=y.kids.take k) (fun k=>⟨wL 109 [(0,.p (.sl 8 LE)),(1,.p (.sl 8 ME)),(5,.p (.int .i64 i)),(6,.ptr 6 0),(7,.ptr 7 0),(9,.p (.int .i64 k))],[],[(6,.vars 36 x.cells),(7,.vars 36 y.cells)],0⟩) (fun k=>x.kids.length-k) (0) ⟨by omega,rfl⟩ ⟨qH (by simp),rfl,by simp,by simp⟩ ?_
  rintro k ⟨hk2,htk3⟩
  refine AW.seq (rgn [] [[],[],[],[],[0,1,5,6,7,9,95]] ?_)
  iterate 5 refine op1 tok ?_
  refine qA (cnd ?_ ?_)
  ·intro h95
   try simp at h95
   obtain ⟨a,ha⟩:∃ a,x.kids[k]?=some a:=⟨x.kids[k]'(by omega),by simp [show k<x.kids.length by omega]⟩
   obtain ⟨b,hb⟩:∃ b,y.kids[k]?=some b:=⟨y.kids[k]'(by omega),by simp [show k<y.kids.length by omega]⟩
   refine AW.skip (AW.seq (AW.block ?_))
   refine AW.seqDrawS tok mixed 11 [[6],[98],[9],[99,100],[101],[7],[103],[9],[104,105],[106],[102,107]] [.int .i64 a,.int .i64 b] [] (by kernel_rfl) ?_
   iterate 11 refine d1 ?_ (hv:=by first | with_reducible exact True.intro | (first | exact ha | exact hb | (simp [ha]; done) | (simp [hb]; done) | (simp [ha]; omega) | (simp [hb]; omega); done) | omega | simp | (simp +contextual; omega))
   refine DGo.nil (by kernel_rfl) ⟨by kernel_rfl, ?_⟩
   refine qB.nil ?_
   refine cnd ?_ ?_
   ·intro h108
    try simp at h108
    rw [hne (fun e=>h108 (by subst e; rw [ha] at hb; exact Option.some.inj hb))]
    refine rgn [] [[]] ?_
    refine op1 tok ?_
    exact qA (AW.ret qX)
   intro h108
   try simp at h108
   have htk4:=qHQ htk3 ha hb h108
   refine AW.skip (rgz [] [[],[],[0,1,5,6,7,9]] ?_)
   iterate 3 refine op1 tok ?_
   refine qA ?_
   exact ⟨k+1,⟨by omega,htk4⟩,by omega,qH (by simp),rfl,by simp,by simp⟩
  intro h95
  try simp at h95
  obtain rfl:k=x.kids.length:=by omega
  have hkids:x.kids=y.kids:=by rw [List.take_length,gv,List.take_length] at htk3; exact htk3
  have ht2:=qHQ ht hx hy (heq hkeys hkids)
  refine AW.exit ?_
  simp
  refine rgz [] [[],[],[0,1,5]] ?_
  iterate 3 refine op1 tok ?_
  refine qA ?_
  exact ⟨i+1,⟨by omega,ht2⟩,by omega,qH (by simp),rfl,by simp,by simp⟩
 intro h18
 try simp at h18
 obtain rfl:i=l.length:=by omega
 have hall:l=m:=by rw [List.take_length,hlm,List.take_length] at ht; exact ht
 rw [decide_eq_true hall]
 refine AW.exit ?_
 simp
 refine rgn [] [[]] ?_
 refine op1 tok ?_
 exact qA (AW.ret qX)
end Go.Proofs.YtbhhphabggcacaaGreatDoor
