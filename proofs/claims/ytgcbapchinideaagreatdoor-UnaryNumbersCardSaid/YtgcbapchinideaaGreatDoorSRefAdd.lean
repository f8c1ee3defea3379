import Derived.Test.YtgcbapchinideaaGreatDoorSRefAddL
import Derived.Test.YtgcbapchinideaaGreatDoorSRefDecCmp
namespace Go.Proofs.YtgcbapchinideaaGreatDoor
open Sy Go
set_option maxRecDepth 100000
set_option maxHeartbeats 4000000
set_option linter.unusedSimpArgs false
set_option linter.unusedVariables false
variable {G:qM}
theorem w8n {n:Nat} (h:n<256):IntKind.u8.wrap (n:Int)=n:=by simp [IntKind.wrap,IntKind.bits,IntKind.signed]; omega
theorem w8d {c:UInt8} {d:Nat} (h:c.toNat=48+d):IntKind.u8.wrap ((c.toNat:Int)-48)=d:=by rw [h,show ((48+d:Nat):Int)-48=d by omega]; exact w8n (by have:=c.toNat_lt; omega)
theorem qUU (x y:List UInt8) (hx:x.all qG=true) (hy:y.all qG=true) (hl:x.length=y.length) (hs:x.length≤1000000):AFn Tryz.prog G 60 [.str x,.str y] (.str (wY (x.length+1) (qR x+qR y))):=by
 refine AFn.introU tok Tryz.func60 (by kernel_rfl) rfl rfl ?_
 simp only [Tryz.f60,qO,List.map_cons,List.map_nil]
 have vx:=wH hx
 have vy:=wH hy
 have dx:=fun k h=>qKX hx (k:=k) h
 have dy:=fun k h=>qKX hy (k:=k) h
 rw [← hl] at vy dy
 generalize hX:qR x=X at *
 generalize hY:qR y=Y at *
 refine rgn [] [[0,1]] ?_
 refine op1 tok ?_
 refine qA (rgn [] [[]] ?_)
 refine op1 tok ?_
 refine qA (rgn [] [[]] ?_)
 refine op1 tok ?_
 refine qA (AW.seq (rgn [] [[],[],[],[0,1,5,6,7]] ?_))
 iterate 4 refine op1 tok ?_
 refine qA (AW.block ?_)
 refine AW.loop (α:=Nat) (fun k=>k≤x.length) (fun k=>⟨zF 46 [(0,.p (.str x)),(1,.p (.str y)),(5,.p (.str (wY k (X+Y)))),(6,.p (.int .i64 (xT X Y k))),(7,.p (.int .i64 ((x.length:Int)-1-k)))],[],[],0⟩) (fun k=>x.length-k) (0) (by omega) ⟨qF (by simp [wY,xT,Nat.mod_one]),rfl,by simp,by simp⟩ ?_
 rintro k hk
 have hc1:=qRJ X Y k
 have hdl:=yJ k (X+Y)
 refine AW.seq (rgn [] [[],[0,1,5,6,7,13]] ?_)
 iterate 2 refine op1 tok ?_
 refine qA (cnd ?_ ?_)
 ·intro h13
  try simp at h13
  have hkx:k<x.length:=by omega
  obtain ⟨cx,gx,ex⟩:=dx k hkx
  obtain ⟨cy,gy,ey⟩:=dy k hkx
  obtain ⟨s1,s2⟩:=qWR X Y k
  have hnx:wY (k+1) (X+Y)=UInt8.ofNat (48+(X+Y) / 10 ^ k % 10)::wY k (X+Y):=rfl
  have l1:X / 10 ^ k % 10<10:=Nat.mod_lt _ (by decide)
  have l2:Y / 10 ^ k % 10<10:=Nat.mod_lt _ (by decide)
  generalize X / 10 ^ k % 10=p at *
  generalize Y / 10 ^ k % 10=q at *
  have l3:(X+Y) / 10 ^ k % 10<10:=Nat.mod_lt _ (by decide)
  generalize (X+Y) / 10 ^ k % 10=r at *
  have w1:=w8d ex
  have w2:=w8d ey
  have ei:((x.length:Int)-1-k).toNat=x.length-1-k:=by omega
  have hr:=kS l3
  have hw3:IntKind.u8.wrap (48+(r:Int))=((48+r:Nat):Int):=by rw [show (48+(r:Int))=((48+r:Nat):Int) by omega]; exact w8n (by omega)
  generalize UInt8.ofNat (48+r)=D at *
  generalize xT X Y k=c at *
  have hN:((p:Int)+q+c).tmod 10=r:=by rw [show ((p:Int)+q+c)=((p+q+c:Nat):Int) by omega,← s1]; rfl
  have hQ:((p:Int)+q+c).tdiv 10=(xT X Y (k+1):Nat):=by rw [show ((p:Int)+q+c)=((p+q+c:Nat):Int) by omega,← s2]; rfl
  have hQw:IntKind.i64.wrap ((xT X Y (k+1):Nat):Int)=(xT X Y (k+1):Nat):=by have:=qRJ X Y (k+1); exact zEH (by omega)
  refine AW.skip (AW.seq (AW.block ?_))
  refine AW.seqDrawS tok mixed 13 [[0],[7],[16,17],[18],[19],[1],[7],[21,22],[23],[24],[20,25],[6],[26,27]] [.int .u8 cx.toNat,.int .u8 cy.toNat] [] (by kernel_rfl) ?_
  iterate 13 refine d1 ?_ (h:=by intro C; conv=>lhs; simp [w1,w2]) (hv:=by first | with_reducible exact True.intro | (first | exact ⟨by omega,cx,gx,rfl⟩ | exact ⟨by omega,cy,gy,rfl⟩; done) | omega | simp | (simp +contextual; omega))
  refine DGo.nil (by kernel_rfl) ⟨by kernel_rfl, ?_⟩
  refine qH.run [[0,1,5,7,8]] ?_
  refine op1 tok ?_ (h:=by intro C; conv=>lhs; simp [w1,w2])
  refine qA (rgn [.int .u8 D.toNat,.str [D]] [[],[],[],[],[0,1,5,7,8,33],[],[],[0,1,7,8,36],[0,1,5,7,8]] ?_)
  iterate 9 refine op1 tok ?_ (h:=by intro C; conv=>lhs; simp [hN,hw3,hr]) (hv:=by first | with_reducible exact True.intro | ((rw [show qI [D]=[PD.int .u8 (D.toNat:Int)] from rfl,hr]; simp; done); done) | omega | simp | (simp +contextual; omega))
  refine qA (rgz [] [[],[],[0,1,5,6,7]] ?_)
  iterate 3 refine op1 tok ?_
  refine qA (rgz [] [[],[],[0,1,5,6,7]] ?_)
  iterate 3 refine op1 tok ?_
  refine qA ?_
  exact ⟨k+1,by omega,by omega,qF (by simp [hnx,hQ,hQw,show (x.length:Int)-1-k-1=x.length-1-(k+1) from by omega]),rfl,by simp [hnx,hQ,hQw,show (x.length:Int)-1-k-1=x.length-1-(k+1) from by omega],by simp [hnx,hQ,hQw,show (x.length:Int)-1-k-1=x.length-1-(k+1) from by omega]⟩
 intro h13
 try simp at h13
 obtain rfl:k=x.length:=by omega
 have hlast:wY (x.length+1) (X+Y)=UInt8.ofNat (48+(X+Y) / 10 ^ x.length % 10)::wY x.length (X+Y):=rfl
 have hca:xT X Y x.length=(X+Y) / 10 ^ x.length:=by unfold xT; rw [Nat.mod_eq_of_lt vx,Nat.mod_eq_of_lt vy]
 have hcm:(X+Y) / 10 ^ x.length % 10=xT X Y x.length:=by rw [← hca]; omega
 rw [hcm] at hlast
 have hr:=kS (n:=xT X Y x.length) (by omega)
 have hw3:IntKind.u8.wrap (48+((xT X Y x.length:Nat):Int))=((48+xT X Y x.length:Nat):Int):=by rw [show (48+((xT X Y x.length:Nat):Int))=((48+xT X Y x.length:Nat):Int) by omega]; exact w8n (by omega)
 rw [hlast]
 generalize UInt8.ofNat (48+xT X Y x.length)=D at *
 refine AW.exit ?_
 simp
 refine rgn [.int .u8 D.toNat,.str [D]] [[],[],[],[5,42],[],[],[45],[4]] ?_
 iterate 8 refine op1 tok ?_ (h:=by intro C; conv=>lhs; simp [hw3,hr]) (hv:=by first | with_reducible exact True.intro | ((rw [show qI [D]=[PD.int .u8 (D.toNat:Int)] from rfl,hr]; simp; done); done) | omega | simp | (simp +contextual; omega))
 exact qA (AW.ret qK)
theorem qGJ (x y:List UInt8) (hx:x.all qG=true) (hy:y.all qG=true) (hl:x.length=y.length) (hs:x.length≤1000000) (hle:qR y≤qR x):AFn Tryz.prog G 61 [.str x,.str y] (.str (wY x.length (qR x-qR y))):=by
 refine AFn.introU tok Tryz.func61 (by kernel_rfl) rfl rfl ?_
 simp only [Tryz.f61,qO,List.map_cons,List.map_nil]
 have vx:=wH hx
 have vy:=wH hy
 have dx:=fun k h=>qKX hx (k:=k) h
 have dy:=fun k h=>qKX hy (k:=k) h
 rw [← hl] at vy dy
 rw [← qWK hle]
 generalize hX:qR x=X at *
 generalize hY:qR y=Y at *
 refine rgn [] [[0,1]] ?_
 refine op1 tok ?_
 refine qA (rgn [] [[]] ?_)
 refine op1 tok ?_
 refine qA (rgn [] [[]] ?_)
 refine op1 tok ?_
 refine qA (AW.seq (rgn [] [[],[],[],[0,1,5,6,7]] ?_))
 iterate 4 refine op1 tok ?_
 refine qA (AW.block ?_)
 refine AW.loop (α:=Nat) (fun k=>k≤x.length) (fun k=>⟨zF 39 [(0,.p (.str x)),(1,.p (.str y)),(5,.p (.str (wY k (X+10 ^ x.length-Y)))),(6,.p (.int .i64 (qBO X Y k))),(7,.p (.int .i64 ((x.length:Int)-1-k)))],[],[],0⟩) (fun k=>x.length-k) (0) (by omega) ⟨qF (by simp [wY,qWS]),rfl,by simp,by simp⟩ ?_
 rintro k hk
 have hdl:=yJ k (X+10 ^ x.length-Y)
 have hb1:qBO X Y k≤1:=by unfold qBO; split <;> omega
 refine AW.seq (rgn [] [[],[0,1,5,6,7,13]] ?_)
 iterate 2 refine op1 tok ?_
 refine qA (cnd ?_ ?_)
 ·intro h13
  try simp at h13
  have hkx:k<x.length:=by omega
  obtain ⟨cx,gx,ex⟩:=dx k hkx
  obtain ⟨cy,gy,ey⟩:=dy k hkx
  have s1:=qWT X Y k
  have s2:=qWJ X Y k hkx vy
  have hnb:qBO X Y (k+1)=if qTN X Y (k+1)=true then 1 else 0:=rfl
  rw [s1] at hnb
  have hnx:wY (k+1) (X+10 ^ x.length-Y)=UInt8.ofNat (48+(X+10 ^ x.length-Y) / 10 ^ k % 10)::wY k (X+10 ^ x.length-Y):=rfl
  have l1:X / 10 ^ k % 10<10:=Nat.mod_lt _ (by decide)
  have l2:Y / 10 ^ k % 10<10:=Nat.mod_lt _ (by decide)
  have l3:(X+10 ^ x.length-Y) / 10 ^ k % 10<10:=Nat.mod_lt _ (by decide)
  generalize (X+10 ^ x.length-Y) / 10 ^ k % 10=r at *
  generalize X / 10 ^ k % 10=p at *
  generalize Y / 10 ^ k % 10=q at *
  generalize qBO X Y k=c at *
  have hr:=kS l3
  have hw3:IntKind.u8.wrap (48+(r:Int))=((48+r:Nat):Int):=by rw [show (48+(r:Int))=((48+r:Nat):Int) by omega]; exact w8n (by omega)
  generalize UInt8.ofNat (48+r)=D at *
  have ex':(cx.toNat:Int)=48+(p:Int):=by rw [ex]; simp
  have ey':(cy.toNat:Int)=48+(q:Int):=by rw [ey]; simp
  refine AW.skip (AW.seq (AW.block ?_))
  refine AW.seqDrawS tok mixed 11 [[0],[7],[16,17],[18],[1],[7],[20,21],[22],[19,23],[6],[24,25]] [.int .u8 cx.toNat,.int .u8 cy.toNat] [] (by kernel_rfl) ?_
  iterate 11 refine d1 ?_ (h:=by intro C; conv=>lhs; simp [show (cx.toNat:Int)-cy.toNat-c=(p:Int)-q-c from by omega]) (hv:=by first | with_reducible exact True.intro | (first | exact ⟨by omega,cx,gx,rfl⟩ | exact ⟨by omega,cy,gy,rfl⟩; done) | omega | simp | (simp +contextual; omega))
  refine DGo.nil (by kernel_rfl) ⟨by kernel_rfl, ?_⟩
  refine qH.run [[0,1,5,7,8]] ?_
  refine op1 tok ?_ (h:=by intro C; conv=>lhs; simp [show (cx.toNat:Int)-cy.toNat-c=(p:Int)-q-c from by omega])
  refine qA (rgn [] [[]] ?_)
  refine op1 tok ?_
  refine qA (AW.seq (rgn [] [[],[0,1,5,6,7,8,28]] ?_))
  iterate 2 refine op1 tok ?_
  refine qA (cnd ?_ ?_)
  ·intro h28
   try simp at h28
   have hneg:(p:Int)-q-c<0:=by omega
   rw [if_pos hneg] at s2
   have hnb1:qBO X Y (k+1)=1:=by rw [hnb,if_pos (by simpa using hneg)]
   have hs8:(p:Int)-q-c+10=r:=s2.symm
   refine rgn [] [[],[],[0,1,5,7,8]] ?_
   iterate 3 refine op1 tok ?_
   refine qA (rgz [] [[]] ?_)
   refine op1 tok ?_
   refine qA (rgz [.int .u8 D.toNat,.str [D]] [[],[],[],[0,1,5,6,7,34],[],[],[0,1,6,7,37],[0,1,5,6,7]] ?_)
   iterate 8 refine op1 tok ?_ (h:=by intro C; conv=>lhs; simp [hs8,hw3,hr]) (hv:=by first | with_reducible exact True.intro | ((rw [show qI [D]=[PD.int .u8 (D.toNat:Int)] from rfl,hr]; simp; done); done) | omega | simp | (simp +contextual; omega))
   refine qA (rgz [] [[],[],[0,1,5,6,7]] ?_)
   iterate 3 refine op1 tok ?_
   refine qA ?_
   exact ⟨k+1,by omega,by omega,qF (by simp [hnx,hnb1,show (x.length:Int)-1-k-1=x.length-1-(k+1) from by omega]),rfl,by simp [hnx,hnb1,show (x.length:Int)-1-k-1=x.length-1-(k+1) from by omega],by simp [hnx,hnb1,show (x.length:Int)-1-k-1=x.length-1-(k+1) from by omega]⟩
  intro h28
  try simp at h28
  have hneg:¬ (p:Int)-q-c<0:=by omega
  rw [if_neg hneg] at s2
  have hnb1:qBO X Y (k+1)=0:=by rw [hnb,if_neg (by simpa using hneg)]
  have hs8:(p:Int)-q-c=r:=s2.symm
  refine AW.skip (rgz [.int .u8 D.toNat,.str [D]] [[],[],[],[0,1,5,6,7,34],[],[],[0,1,6,7,37],[0,1,5,6,7]] ?_)
  iterate 8 refine op1 tok ?_ (h:=by intro C; conv=>lhs; simp [hs8,hw3,hr]) (hv:=by first | with_reducible exact True.intro | ((rw [show qI [D]=[PD.int .u8 (D.toNat:Int)] from rfl,hr]; simp; done); done) | omega | simp | (simp +contextual; omega))
  refine qA (rgz [] [[],[],[0,1,5,6,7]] ?_)
  iterate 3 refine op1 tok ?_
  refine qA ?_
  exact ⟨k+1,by omega,by omega,qF (by simp [hnx,hnb1,show (x.length:Int)-1-k-1=x.length-1-(k+1) from by omega]),rfl,by simp [hnx,hnb1,show (x.length:Int)-1-k-1=x.length-1-(k+1) from by omega],by simp [hnx,hnb1,show (x.length:Int)-1-k-1=x.length-1-(k+1) from by omega]⟩
 intro h13
 try simp at h13
 obtain rfl:k=x.length:=by omega
 refine AW.exit ?_
 simp
 refine rgn [] [[],[4]] ?_
 iterate 2 refine op1 tok ?_
 exact qA (AW.ret qK)
theorem qGG (ng : Bool) {s : List UInt8} (h : s.all qG = true) (hl : s.length ≤ 1000000) {v : Nat} (hv : qR s = v) {sc : Int} (h0 : 0 ≤ sc) (h1 : sc ≤ 1000000) :
  AFn Tryz.prog G 59 [.bool ng,.str s,.int .i64 sc] (.tup [(zP ng v sc.toNat).1.enc,.int .i64 (zP ng v sc.toNat).2]):=by
 have:=qZL (G:=G) ng s sc.toNat hl (by omega)
 rw [jR ng h,hv,show ((sc.toNat:Nat):Int)=sc by omega] at this
 exact this
theorem qZI (a b:Dc) (ha:okD a) (hb:okD b):AFn Tryz.prog G 24 [a.enc,b.enc] (.tup [(yK a b).1.enc,.int .i64 (yK a b).2]):=by
 refine AFn.introU tok Tryz.func24 (by kernel_rfl) rfl rfl ?_
 simp only [Tryz.f24,qO,List.map_cons,List.map_nil]
 have hal:=qEA (G:=G) a b ha hb
 obtain ⟨a1,a2,a3,a4⟩:=ha
 obtain ⟨b1,b2,b3,b4⟩:=hb
 have hm0:0≤qX a b∧qX a b≤1000:=by unfold qX; split <;> omega
 have px:(wO a b).all qG=true:=yE a4 _
 have py:(wN a b).all qG=true:=yE b4 _
 have lx:(wO a b).length≤2000:=by unfold wO qV; simp; omega
 have ly:(wN a b).length≤2000:=by unfold wN qV; simp; omega
 obtain ⟨xa,ya⟩:=qXD px py
 have hlen:=qQH (wO a b) (wN a b)
 obtain ⟨v1,v2⟩:=qXC (wO a b) (wN a b)
 have hl1:(alX (wO a b) (wN a b)).length≤5000:=by unfold alX qV; simp only [List.length_append,List.length_replicate]; split <;> omega
 have hA:yK a b=if a.neg=b.neg then zP a.neg (qR (wO a b)+qR (wN a b)) (qX a b).toNat
  else if qR (wN a b)≤qR (wO a b) then zP a.neg (qR (wO a b)-qR (wN a b)) (qX a b).toNat else zP b.neg (qR (wN a b)-qR (wO a b)) (qX a b).toNat:=rfl
 rw [hA,← v1,← v2]
 generalize alX (wO a b) (wN a b)=X at *
 generalize alY (wO a b) (wN a b)=Y at *
 generalize qX a b=M at *
 have hless:=qFG X Y hlen xa ya
 have vx:=wH xa
 have vy:=wH ya
 rw [← hlen] at vy
 have hp:=qUU (G:=G) X Y xa ya hlen (by omega)
 have hm1:=fun h=>qGJ (G:=G) X Y xa ya hlen (by omega) h
 have hm2:=fun h=>qGJ (G:=G) Y X ya xa hlen.symm (by omega) h
 have hn1:=qGG (G:=G) a.neg (jX (X.length+1) (qR X+qR Y)) (by rw [yJ]; omega) (v:=qR X+qR Y) (by rw [jW,Nat.mod_eq_of_lt (by rw [Nat.pow_succ]; omega)]) hm0.1 (by omega)
 have hn2:=qGG (G:=G) a.neg (jX X.length (qR X-qR Y)) (by rw [yJ]; omega) (v:=qR X-qR Y) (by rw [jW,Nat.mod_eq_of_lt (by omega)]) hm0.1 (by omega)
 have hn3:=qGG (G:=G) b.neg (jX Y.length (qR Y-qR X)) (by rw [yJ]; omega) (v:=qR Y-qR X) (by rw [jW,Nat.mod_eq_of_lt (by rw [← hlen]; omega)]) hm0.1 (by omega)
 generalize qR X=x at *
 generalize qR Y=y at *
 generalize wY (X.length+1) (x+y)=D1 at *
 generalize wY X.length (x-y)=D2 at *
 generalize wY Y.length (y-x)=D3 at *
 generalize zP a.neg (x+y) M.toNat=r1 at *
 generalize zP a.neg (x-y) M.toNat=r2 at *
 generalize zP b.neg (y-x) M.toNat=r3 at *
 obtain ⟨q1,e1⟩:=r1
 obtain ⟨q2,e2⟩:=r2
 obtain ⟨q3,e3⟩:=r3
 simp only [Dc.enc] at hal hn1 hn2 hn3
 refine rgn [] [[],[],[],[2,3,4]] ?_
 iterate 4 refine op1 tok ?_
 refine qA (rgn [.nilp,.tup [.str X,.str Y,.int .i64 M]] [[],[],[],[],[],[],[2,3,4,13,14,15],[],[],[2,3,4,6,7,8]] ?_)
 iterate 10 refine oq1 tok hal ?_
 refine qA (AW.seq (rgn [] [[],[],[],[],[2,3,4,6,7,8,20]] ?_))
 iterate 5 refine op1 tok ?_
 refine qA (cnd ?_ ?_)
 ·intro h20
  try simp at h20
  rw [if_pos h20]
  refine AW.seqDrawS tok mixed 9 [[2],[21],[6],[7],[23,24],[8],[22,25,26],[27],[27]] [.nilp,.str D1,.nilp,.tup [q1.enc,.int .i64 e1]] [] (by kernel_rfl) ?_
  iterate 9 refine dq1 (ai hp hn1) ?_
  refine DGo.nil (by kernel_rfl) ⟨by kernel_rfl, ?_⟩
  refine qH.run [[],[4,5]] ?_
  iterate 2 refine op1 tok ?_
  exact qA (AW.ret qK)
 intro h20
 try simp at h20
 rw [if_neg h20]
 refine AW.skip (AW.seq (rgn [] [[],[],[2,3,4,6,7,8,32]] ?_))
 iterate 3 refine op1 tok ?_
 refine qA (cnd ?_ ?_)
 ·intro h32
  try simp at h32
  have hle:y≤x:=by rw [← Nat.not_lt,← hless]; simpa using h32
  rw [if_pos hle]
  refine AW.seqDrawS tok mixed 9 [[2],[33],[6],[7],[35,36],[8],[34,37,38],[39],[39]] [.nilp,.str D2,.nilp,.tup [q2.enc,.int .i64 e2]] [] (by kernel_rfl) ?_
  iterate 9 refine d1 ?_ (hv:=by first | with_reducible exact True.intro | (first | exact hm1 hle | exact hn2; done) | omega | simp | (simp +contextual; omega))
  refine DGo.nil (by kernel_rfl) ⟨by kernel_rfl, ?_⟩
  refine qH.run [[],[4,5]] ?_
  iterate 2 refine op1 tok ?_
  exact qA (AW.ret qK)
 intro h32
 try simp at h32
 have hle:x<y:=hless.1 (by simpa using h32)
 rw [if_neg (by omega)]
 refine AW.skip ?_
 refine AW.seqDrawS tok mixed 9 [[3],[42],[7],[6],[44,45],[8],[43,46,47],[48],[48]] [.nilp,.str D3,.nilp,.tup [q3.enc,.int .i64 e3]] [] (by kernel_rfl) ?_
 iterate 9 refine d1 ?_ (hv:=by first | with_reducible exact True.intro | (first | exact hm2 (by omega) | exact hn3; done) | omega | simp | (simp +contextual; omega))
 refine DGo.nil (by kernel_rfl) ⟨by kernel_rfl, ?_⟩
 refine qH.run [[],[4,5]] ?_
 iterate 2 refine op1 tok ?_
 exact qA (AW.ret qK)
end Go.Proofs.YtgcbapchinideaaGreatDoor
