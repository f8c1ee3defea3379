import Derived.Test.YtgcbapchinideaaGreatDoorK1
import Derived.Test.YtgcbapchinideaaGreatDoorM4
import Derived.Test.YtgcbapchinideaaGreatDoorM3
import Derived.Test.YtgcbapchinideaaGreatDoorM1
import Derived.Lib.ValidU
import Derived.Lib.LaidU8T
namespace Go.Proofs.YtgcbapchinideaaGreatDoor
open Sy Go
set_option maxRecDepth 100000
set_option maxHeartbeats 4000000
set_option linter.all false
variable {G:qR}
theorem AW.beginQ {P:Program} {code:Code} {Q:Exit->St->Prop} {st st':St} {d id:Nat} (e:TypeId) (sz:Nat) (hd:st.tmps[d]?=some .nilsl) (hf:st.fresh id=true) (h:({ st with tmps:=st.tmps.set d (.ms id),H:=(id,.row e sz [])::st.H }:St)=st') (k:AW P G code Q st'):AW P G code Q st:=AW.begin e sz hd hf (h ▸ k)
theorem AW.keepE {P:Program} {c:Code} {Q:Exit->St->Prop} {st st':St} (ks:List Nat) (h:st.keep ks=st') (k:AW P G c Q st'):AW P G c Q st:=AW.keep ks (h ▸ k)
abbrev bN (l:List Nat):List PD:=l.map fun(k:Nat)=>PD.int .i64 k
theorem zVU (l:List Nat):bN l=(l.map fun(k:Nat)=>(k:Int)).map Sy.pi:=by simp[bN]
theorem zWR {ss:List XS} {i z:Nat} {x:XS} (h:ss[i]?=some x):(toX ss i z).map XS.ms=(ss.map XS.ms).set i (x.tk.enc,x.pl.enc,some ((x.next.map fun(k:Nat)=>(k:Int))++[(z:Int)])):=by
 unfold toX
 rw[h]
 simp[List.map_set,XS.ms]
theorem qKR (ss:List XS) (l:List Nat) (hl:ss.length<=100000):AX Tryz.prog G 218 [.ptr 5 0,.ms 7] [(5,.vars 207 [.ms 6]),(6,.mach 215 3 (ss.map XS.ms)),(7,.row 3 1 (bN l))] (.p (.int .i64 ss.length)) [5] [(5,.vars 207 [.ms 6]),(6,.mach 215 3 ((ss++[XS.mk .no .no l]).map XS.ms))]:=by
 refine AX.introU tok 900 Tryz.func218 (by kernel_rfl) rfl rfl ?_
 simp only[Tryz.f218,qG,List.map_cons,List.map_nil]
 refine rgn [] [[0,1]] ?_
 refine op3 ?_
 refine qA (rgn [] [[],[],[],[],[],[0,5,9,10],[]] ?_)
 iterate 7 refine op3 ?_
 refine qJ ?_
 refine qB.stepK [0,5,9,12] (qFF tok rfl rfl rfl rfl rfl rfl (by conv=>lhs;simp) trivial (by conv=>lhs;simp) (zVU l) 907 (by conv=>lhs;simp) (by conv=>lhs;simp)) (by conv=>lhs;simp) rfl ?_
 refine qB.stepK [0,5,13] (qDM tok rfl (by conv=>lhs;simp) trivial (by conv=>lhs;simp) trivial (by decide) rfl rfl rfl rfl rfl rfl (by decide) (by conv=>lhs;simp) (by conv=>lhs;simp) (by simp) (by simp;omega) 908 (by conv=>lhs;simp) (by conv=>lhs;simp)) (by conv=>lhs;simp) rfl ?_
 refine qB.run [[],[],[0]] ?_
 iterate 3 refine op3 ?_
 refine qA ?_
 refine AW.keepE [0] (by conv=>lhs;simp) ?_
 refine AW.pinsTo [5] (by simp) rfl ?_
 refine AW.renE 908 6 (by simp) (by conv=>lhs;simp) ?_
 refine rgn [] [[],[],[],[19]] ?_
 iterate 4 refine op3 ?_
 refine qJ ?_
 refine qB.stepK [20] (qKW tok rfl rfl (by conv=>lhs;simp) trivial (by conv=>lhs;simp)) (by conv=>lhs;simp) rfl ?_
 refine qB.run [[],[4]] ?_
 iterate 2 refine op3 ?_
 refine qA ?_
 exact AW.ret (qZ (k:=by simp) (b:=by simp[XS.ms,Tk.enc,Pl.enc]))
theorem qER (ss:List XS) (hl:ss.length<=100000):AX Tryz.prog G 218 [.ptr 5 0,.nilsl] [(5,.vars 207 [.ms 6]),(6,.mach 215 3 (ss.map XS.ms))] (.p (.int .i64 ss.length)) [5] [(5,.vars 207 [.ms 6]),(6,.mach 215 3 ((ss++[noX]).map XS.ms))]:=by
 refine AX.introU tok 900 Tryz.func218 (by kernel_rfl) rfl rfl ?_
 simp only[Tryz.f218,qG,List.map_cons,List.map_nil]
 refine rgn [] [[0,1]] ?_
 refine op3 ?_
 refine qA ?_
 refine AW.beginQ (d:=1) (id:=7) 3 1 (by simp) (by simp) (by conv=>lhs;simp) ?_
 refine rgn [] [[],[],[],[],[],[0,5,9,10],[]] ?_
 iterate 7 refine op3 ?_
 refine qJ ?_
 refine qB.stepK [0,5,9,12] (qFF tok rfl rfl rfl rfl rfl rfl (by conv=>lhs;simp) trivial (by conv=>lhs;simp) (rs:=[]) (l:=[]) rfl 907 (by conv=>lhs;simp) (by conv=>lhs;simp)) (by conv=>lhs;simp) rfl ?_
 refine qB.stepK [0,5,13] (qDM tok rfl (by conv=>lhs;simp) trivial (by conv=>lhs;simp) trivial (by decide) rfl rfl rfl rfl rfl rfl (by decide) (by conv=>lhs;simp) (by conv=>lhs;simp) (by simp) (by simp;omega) 908 (by conv=>lhs;simp) (by conv=>lhs;simp)) (by conv=>lhs;simp) rfl ?_
 refine qB.run [[],[],[0]] ?_
 iterate 3 refine op3 ?_
 refine qA ?_
 refine AW.keepE [0] (by conv=>lhs;simp) ?_
 refine AW.pinsTo [5] (by simp) rfl ?_
 refine AW.renE 908 6 (by simp) (by conv=>lhs;simp) ?_
 refine rgn [] [[],[],[],[19]] ?_
 iterate 4 refine op3 ?_
 refine qJ ?_
 refine qB.stepK [20] (qKW tok rfl rfl (by conv=>lhs;simp) trivial (by conv=>lhs;simp)) (by conv=>lhs;simp) rfl ?_
 refine qB.run [[],[4]] ?_
 iterate 2 refine op3 ?_
 refine qA ?_
 exact AW.ret (qZ (k:=by simp) (b:=by simp[XS.ms,Tk.enc,Pl.enc]))
theorem qMP (ss:List XS) (i z:Nat) (x:XS) (hx:ss[i]?=some x) (hz:z<=100000) (hn:x.next.length<=100000):AX Tryz.prog G 219 [.ptr 5 0,.p (.int .i64 i),.p (.int .i64 z)] [(5,.vars 207 [.ms 6]),(6,.mach 215 3 (ss.map XS.ms))] (.tuple []) [5,6] [(5,.vars 207 [.ms 6]),(6,.mach 215 3 ((toX ss i z).map XS.ms))]:=by
 refine AX.introU tok 900 Tryz.func219 (by kernel_rfl) rfl rfl ?_
 simp only[Tryz.f219,qG,List.map_cons,List.map_nil]
 rw[zWR hx]
 have hxm:(ss.map XS.ms)[i]?=some (x.tk.enc,x.pl.enc,some (x.next.map fun(k:Nat)=>(k:Int))):=by simp[hx,XS.ms]
 have hil:i<(ss.map XS.ms).length:=(List.getElem?_eq_some_iff.1 hxm).1
 have hxl:(x.next.map fun(k:Nat)=>(k:Int)).length<=100000:=by simpa using hn
 generalize x.tk.enc=d1 at *
 generalize x.pl.enc=d2 at *
 generalize (x.next.map fun(k:Nat)=>(k:Int))=L at *
 generalize ss.map XS.ms=S at *
 refine AW.drawR mixed 19 [[0],[6],[7],[8],[1],[0],[11],[12],[13],[1],[14,15],[16],[17],[2],[19],[18,20],[9,10],[22],[23,21]] [] (by kernel_rfl) ?_
 iterate 10 refine qS.o0 tok (k := ?_)
 refine qS.y [(6,.mach 215 3 S)] [(6,.mach 215 3 S)] (.rptr 6 i 3 0) true rfl (qAI tok i rfl rfl rfl rfl (by conv=>lhs;simp) trivial (by conv=>lhs;simp) trivial (by conv=>lhs;simp) hil rfl) (fun _=>rfl) (by simp) (by simp) (by kernel_rfl) (by kernel_rfl) (by conv=>lhs;simp) ?_
 refine qS.o0 tok (k := ?_)
 refine qS.yAny [(6,.mach 215 3 S)] [(912,.row 3 1 (L.map Sy.pi)),(6,.mach 215 3 (S.set i (d1,d2,none)))] (.ms 912) [6] [912] rfl (zDE tok rfl rfl rfl (by conv=>lhs;simp) trivial (by conv=>lhs;simp) hxm 912 (by kernel_rfl) (by conv=>lhs;simp)) (by simp) (by simp) (by simp) (by simp) (by simp) (by simp) (by kernel_rfl) (by kernel_rfl) (by conv=>lhs;simp) ?_
 refine qS.o0 tok (k := ?_)
 refine qS.o1 tok (orc:=[.int .i64 z]) (k := ?_)
 refine qS.o0 tok (k := ?_)
 refine qS.y [(6,.mach 215 3 (S.set i (d1,d2,none)))] [(6,.mach 215 3 (S.set i (d1,d2,none)))] (.rptr 6 i 3 0) true rfl (qAI tok i rfl rfl rfl rfl (by conv=>lhs;simp) trivial (by conv=>lhs;simp) trivial (by conv=>lhs;simp) (by simpa using hil) rfl) (fun _=>rfl) (by simp) (by simp) (by kernel_rfl) (by kernel_rfl) (by conv=>lhs;simp) ?_
 refine qS.o0 tok (k := ?_)
 refine qS.yAny [(6,.mach 215 3 (S.set i (d1,d2,none))),(921,.row 3 1 (L.map Sy.pi++[.int .i64 z]))] [(6,.mach 215 3 (S.set i (d1,d2,some (L++[(z:Int)]))))] .dead [6] [] rfl (zIW tok rfl rfl rfl (by conv=>lhs;simp) trivial (by conv=>lhs;simp) trivial (l:=L++[(z:Int)]) (by conv=>lhs;simp) (by rw[List.getElem?_set_self hil]) (by conv=>lhs;simp) (by simp) (by decide) (by conv=>lhs;simp)) (by simp) (by simp) (by simp) (by simp) (by simp) (by simp) (by kernel_rfl) (by kernel_rfl) (by conv=>lhs;simp) ?_
 refine qS.nil (by kernel_rfl) ⟨by kernel_rfl, ?_⟩
 refine qB.nil ?_
 exact qBY
theorem zNL (ss:List XS) (d:Tk) (f:FuncId) (hd:d.enc = .fn f) (hl:ss.length<=50000):AX Tryz.prog G 245 [.ptr 5 0,.p (.fn f)] [(5,.vars 207 [.ms 6]),(6,.mach 215 3 (ss.map XS.ms))] (.agg [.p (.int .i64 (wX ss).1),.p (.int .i64 (wX ss).2)]) [5] [(5,.vars 207 [.ms 6]),(6,.mach 215 3 ((vE ss d).map XS.ms))]:=by
 refine AX.introU tok 900 Tryz.func245 (by kernel_rfl) rfl rfl ?_
 simp only[Tryz.f245,qG,List.map_cons,List.map_nil]
 refine rgn [] [[]] ?_
 refine op3 ?_
 refine qA (rgn [] [[]] ?_)
 refine op3 ?_
 refine qJ ?_
 refine qB.stepK [0,1,4,8] (zF rfl (qER ss (by omega)) (by simp)) (by conv=>lhs;simp) rfl ?_
 refine qB.run [[0,1,4,5]] ?_
 refine op3 ?_
 refine qA (rgn [.int .i64 ss.length] [[],[],[]] ?_)
 iterate 3 refine op3 ?_
 refine qJ ?_
 refine qB.take 911 7 (by conv=>lhs;simp) ?_
 refine qB.stepK [0,1,4,5,12] (zF rfl (qKR (ss++[noX]) [ss.length] (by simp;omega)) (by simp)) (by conv=>lhs;simp) rfl ?_
 refine qB.run [[0,1,4,5,6]] ?_
 refine op3 ?_
 refine qA (rgn [] [[],[],[],[1,4,5,6,16],[],[]] ?_)
 iterate 6 refine op3 ?_
 refine qJ ?_
 refine qB.stepK [4,5,6,18,19] (qAI tok (ss.length+1) rfl rfl rfl rfl (by conv=>lhs;simp) trivial (by conv=>lhs;simp) trivial (by conv=>lhs;simp) (by simp) (by simp)) (by conv=>lhs;simp) rfl ?_
 refine qB.run [[]] ?_
 refine op3 ?_
 refine qJ ?_
 refine qB.stepK [4,5,6] (qDK tok (f:=0) rfl rfl rfl (by decide) (by conv=>lhs;simp) trivial (by conv=>lhs;simp) trivial (by conv=>lhs;simp) (d:=d.enc) (by rw[hd];simp[V.fits,V.fitsL]) (by conv=>lhs;simp) (s:=(.nilf,.nilf,some [(ss.length:Int)])) (by simp[XS.ms,Tk.enc,Pl.enc]) (by conv=>lhs;simp)) (by conv=>lhs;simp) rfl ?_
 refine qB.nil ?_
 refine rgn [] [[],[],[4,23],[4]] ?_
 iterate 4 refine op3 ?_
 refine qA ?_
 exact AW.ret (qZ (k:=by simp[wX]) (b:=by simp[vE,XS.ms,Tk.enc,Pl.enc,hd]))
theorem qZU (ss:List XS) (d:Tk) (f:FuncId) (c:List PD) (hd:d.enc = .clo f [.ref c]) (hl:ss.length<=50000):AX Tryz.prog G 245 [.ptr 5 0,.func (.func f) [] [.cptr c]] [(5,.vars 207 [.ms 6]),(6,.mach 215 3 (ss.map XS.ms))] (.agg [.p (.int .i64 (wX ss).1),.p (.int .i64 (wX ss).2)]) [5] [(5,.vars 207 [.ms 6]),(6,.mach 215 3 ((vE ss d).map XS.ms))]:=by
 refine AX.introU tok 900 Tryz.func245 (by kernel_rfl) rfl rfl ?_
 simp only[Tryz.f245,qG,List.map_cons,List.map_nil]
 refine rgn [] [[]] ?_
 refine op3 ?_
 refine qA (rgn [] [[]] ?_)
 refine op3 ?_
 refine qJ ?_
 refine qB.stepK [0,1,4,8] (zF rfl (qER ss (by omega)) (by simp)) (by conv=>lhs;simp) rfl ?_
 refine qB.run [[0,1,4,5]] ?_
 refine op3 ?_
 refine qA (rgn [.int .i64 ss.length] [[],[],[]] ?_)
 iterate 3 refine op3 ?_
 refine qJ ?_
 refine qB.take 911 7 (by conv=>lhs;simp) ?_
 refine qB.stepK [0,1,4,5,12] (zF rfl (qKR (ss++[noX]) [ss.length] (by simp;omega)) (by simp)) (by conv=>lhs;simp) rfl ?_
 refine qB.run [[0,1,4,5,6]] ?_
 refine op3 ?_
 refine qA (rgn [] [[],[],[],[1,4,5,6,16],[],[]] ?_)
 iterate 6 refine op3 ?_
 refine qJ ?_
 refine qB.stepK [4,5,6,18,19] (qAI tok (ss.length+1) rfl rfl rfl rfl (by conv=>lhs;simp) trivial (by conv=>lhs;simp) trivial (by conv=>lhs;simp) (by simp) (by simp)) (by conv=>lhs;simp) rfl ?_
 refine qB.run [[]] ?_
 refine op3 ?_
 refine qJ ?_
 refine qB.stepK [4,5,6] (qDK tok (f:=0) rfl rfl rfl (by decide) (by conv=>lhs;simp) trivial (by conv=>lhs;simp) trivial (by conv=>lhs;simp) (d:=d.enc) (by rw[hd];simp[V.fits,V.fitsL]) (by conv=>lhs;simp) (s:=(.nilf,.nilf,some [(ss.length:Int)])) (by simp[XS.ms,Tk.enc,Pl.enc]) (by conv=>lhs;simp)) (by conv=>lhs;simp) rfl ?_
 refine qB.nil ?_
 refine rgn [] [[],[],[4,23],[4]] ?_
 iterate 4 refine op3 ?_
 refine qA ?_
 exact AW.ret (qZ (k:=by simp[wX]) (b:=by simp[vE,XS.ms,Tk.enc,Pl.enc,hd]))
theorem qZT (ss:List XS) (d:Tk) (f:FuncId) (c e:List PD) (hd:d.enc = .clo f [.ref c,.ref e]) (hl:ss.length<=50000):AX Tryz.prog G 245 [.ptr 5 0,.func (.func f) [] [.cptr c,.cptr e]] [(5,.vars 207 [.ms 6]),(6,.mach 215 3 (ss.map XS.ms))] (.agg [.p (.int .i64 (wX ss).1),.p (.int .i64 (wX ss).2)]) [5] [(5,.vars 207 [.ms 6]),(6,.mach 215 3 ((vE ss d).map XS.ms))]:=by
 refine AX.introU tok 900 Tryz.func245 (by kernel_rfl) rfl rfl ?_
 simp only[Tryz.f245,qG,List.map_cons,List.map_nil]
 refine rgn [] [[]] ?_
 refine op3 ?_
 refine qA (rgn [] [[]] ?_)
 refine op3 ?_
 refine qJ ?_
 refine qB.stepK [0,1,4,8] (zF rfl (qER ss (by omega)) (by simp)) (by conv=>lhs;simp) rfl ?_
 refine qB.run [[0,1,4,5]] ?_
 refine op3 ?_
 refine qA (rgn [.int .i64 ss.length] [[],[],[]] ?_)
 iterate 3 refine op3 ?_
 refine qJ ?_
 refine qB.take 911 7 (by conv=>lhs;simp) ?_
 refine qB.stepK [0,1,4,5,12] (zF rfl (qKR (ss++[noX]) [ss.length] (by simp;omega)) (by simp)) (by conv=>lhs;simp) rfl ?_
 refine qB.run [[0,1,4,5,6]] ?_
 refine op3 ?_
 refine qA (rgn [] [[],[],[],[1,4,5,6,16],[],[]] ?_)
 iterate 6 refine op3 ?_
 refine qJ ?_
 refine qB.stepK [4,5,6,18,19] (qAI tok (ss.length+1) rfl rfl rfl rfl (by conv=>lhs;simp) trivial (by conv=>lhs;simp) trivial (by conv=>lhs;simp) (by simp) (by simp)) (by conv=>lhs;simp) rfl ?_
 refine qB.run [[]] ?_
 refine op3 ?_
 refine qJ ?_
 refine qB.stepK [4,5,6] (qDK tok (f:=0) rfl rfl rfl (by decide) (by conv=>lhs;simp) trivial (by conv=>lhs;simp) trivial (by conv=>lhs;simp) (d:=d.enc) (by rw[hd];simp[V.fits,V.fitsL]) (by conv=>lhs;simp) (s:=(.nilf,.nilf,some [(ss.length:Int)])) (by simp[XS.ms,Tk.enc,Pl.enc]) (by conv=>lhs;simp)) (by conv=>lhs;simp) rfl ?_
 refine qB.nil ?_
 refine rgn [] [[],[],[4,23],[4]] ?_
 iterate 4 refine op3 ?_
 refine qA ?_
 exact AW.ret (qZ (k:=by simp[wX]) (b:=by simp[vE,XS.ms,Tk.enc,Pl.enc,hd]))
theorem qTP (ss:List XS) (d:Pl) (f:FuncId) (hd:d.enc = .fn f) (hl:ss.length<=50000):AX Tryz.prog G 247 [.ptr 5 0,.p (.fn f)] [(5,.vars 207 [.ms 6]),(6,.mach 215 3 (ss.map XS.ms))] (.agg [.p (.int .i64 (wX ss).1),.p (.int .i64 (wX ss).2)]) [5] [(5,.vars 207 [.ms 6]),(6,.mach 215 3 ((uO ss d).map XS.ms))]:=by
 refine AX.introU tok 900 Tryz.func247 (by kernel_rfl) rfl rfl ?_
 simp only[Tryz.f247,qG,List.map_cons,List.map_nil]
 refine rgn [] [[]] ?_
 refine op3 ?_
 refine qA (rgn [] [[]] ?_)
 refine op3 ?_
 refine qJ ?_
 refine qB.stepK [0,1,4,8] (zF rfl (qER ss (by omega)) (by simp)) (by conv=>lhs;simp) rfl ?_
 refine qB.run [[0,1,4,5]] ?_
 refine op3 ?_
 refine qA (rgn [.int .i64 ss.length] [[],[],[]] ?_)
 iterate 3 refine op3 ?_
 refine qJ ?_
 refine qB.take 911 7 (by conv=>lhs;simp) ?_
 refine qB.stepK [0,1,4,5,12] (zF rfl (qKR (ss++[noX]) [ss.length] (by simp;omega)) (by simp)) (by conv=>lhs;simp) rfl ?_
 refine qB.run [[0,1,4,5,6]] ?_
 refine op3 ?_
 refine qA (rgn [] [[],[],[],[1,4,5,6,16],[],[]] ?_)
 iterate 6 refine op3 ?_
 refine qJ ?_
 refine qB.stepK [4,5,6,18,19] (qAI tok (ss.length+1) rfl rfl rfl rfl (by conv=>lhs;simp) trivial (by conv=>lhs;simp) trivial (by conv=>lhs;simp) (by simp) (by simp)) (by conv=>lhs;simp) rfl ?_
 refine qB.run [[]] ?_
 refine op3 ?_
 refine qJ ?_
 refine qB.stepK [4,5,6] (qDK tok (f:=1) rfl rfl rfl (by decide) (by conv=>lhs;simp) trivial (by conv=>lhs;simp) trivial (by conv=>lhs;simp) (d:=d.enc) (by rw[hd];simp[V.fits,V.fitsL]) (by conv=>lhs;simp) (s:=(.nilf,.nilf,some [(ss.length:Int)])) (by simp[XS.ms,Tk.enc,Pl.enc]) (by conv=>lhs;simp)) (by conv=>lhs;simp) rfl ?_
 refine qB.nil ?_
 refine rgn [] [[],[],[4,23],[4]] ?_
 iterate 4 refine op3 ?_
 refine qA ?_
 exact AW.ret (qZ (k:=by simp[wX]) (b:=by simp[uO,XS.ms,Tk.enc,Pl.enc,hd]))
theorem qFW {ss:List XS} {i:Nat} (h:i<ss.length):∃ x,ss[i]?=some x/\x.next.length<=W ss:=⟨ss[i],by simp[h],zRF (List.getElem_mem h)⟩
theorem zOK (ss:List XS) (p:Pt) (c:Int) (hp:uL ss p) (hw:W ss<=50000):AX Tryz.prog G 237 [.ptr 5 0,.p (.agg [.int .i64 p.1,.int .i64 p.2]),.p (.int .i32 c)] [(5,.vars 207 [.ms 6]),(6,.mach 215 3 (ss.map XS.ms))] (.agg [.p (.int .i64 (wX ss).1),.p (.int .i64 (wX ss).2)]) [5] [(5,.vars 207 [.ms 6]),(6,.mach 215 3 ((uY ss p c).map XS.ms))]:=by
 refine AX.introU tok 900 Tryz.func237 (by kernel_rfl) rfl rfl ?_
 simp only[Tryz.f237,qG,List.map_cons,List.map_nil]
 have hwl:=zVV ss
 have c1:=qER (G:=G) ss (by omega)
 have c2:=qKR (G:=G) (ss++[noX]) [p.1] (by simp;omega)
 have hM:uY ss p c=(let b:=if c=63 then toX (ss++[noX]++[XS.mk .no .no [p.1]]) p.2 ss.length else toX (toX (ss++[noX]++[XS.mk .no .no [p.1]]) p.2 ss.length) p.2 p.1;if c=43 then b else toX b (ss.length+1) ss.length):=by
  unfold uY;rw[List.append_assoc];rfl
 have hl1:(ss++[noX]).length=ss.length+1:=by simp
 have hl2:(ss++[noX]++[XS.mk .no .no [p.1]]).length=ss.length+2:=by simp
 have w2:W (ss++[noX]++[XS.mk .no .no [p.1]])<=W ss+3:=by simp[qRS,W] <;> omega
 rw[hM]
 clear hM
 generalize ss++[noX]=S1 at *
 rw[hl1]at c2
 generalize S1++[XS.mk .no .no [p.1]]=A at *
 have hp1:=hp.1
 have hp2:=hp.2
 obtain⟨x,hx,hxn⟩:=qFW (ss:=A) (i:=p.2) (by omega)
 have c3:=qMP (G:=G) A p.2 ss.length x hx (by omega) (by omega)
 have w3:=qNZ A p.2 ss.length
 have l3:=qDN A p.2 ss.length
 generalize toX A p.2 ss.length=B at *
 obtain⟨y,hy,hyn⟩:=qFW (ss:=B) (i:=p.2) (by omega)
 have c4:=qMP (G:=G) B p.2 p.1 y hy (by omega) (by omega)
 have w4:=qNZ B p.2 p.1
 have l4:=qDN B p.2 p.1
 generalize toX B p.2 p.1=C at *
 obtain⟨u,hu,hun⟩:=qFW (ss:=B) (i:=ss.length+1) (by omega)
 have c5:=qMP (G:=G) B (ss.length+1) ss.length u hu (by omega) (by omega)
 obtain⟨v,hv,hvn⟩:=qFW (ss:=C) (i:=ss.length+1) (by omega)
 have c6:=qMP (G:=G) C (ss.length+1) ss.length v hv (by omega) (by omega)
 refine rgn [] [[],[0,2,4,6]] ?_
 iterate 2 refine op3 ?_
 refine qA (rgn [] [[]] ?_)
 refine op3 ?_
 refine qJ ?_
 refine qB.stepK [0,2,4,6,10] (zF rfl c1 (by simp)) (by conv=>lhs;simp) rfl ?_
 refine qB.run [[0,2,4,6,7]] ?_
 refine op3 ?_
 refine qA (rgn [.int .i64 p.1] [[],[],[],[]] ?_)
 iterate 4 refine op3 ?_
 refine qJ ?_
 refine qB.take 914 7 (by conv=>lhs;simp) ?_
 refine qB.stepK [0,2,4,6,7,15] (zF rfl c2 (by simp)) (by conv=>lhs;simp) rfl ?_
 refine qB.run [[0,2,4,6,7,8]] ?_
 refine op3 ?_
 refine qA (rgn [] [[],[],[],[]] ?_)
 iterate 4 refine op3 ?_
 refine qJ ?_
 refine qB.stepK [0,2,4,6,7,8] (zF rfl c3 (by simp)) (by conv=>lhs;simp) rfl ?_
 refine qB.nil ?_
 refine AW.seq (rgn [] [[],[0,2,4,6,7,8,22]] ?_)
 iterate 2 refine op3 ?_
 refine qA (cnd ?_ ?_)
 ·intro h22
  try simp at h22
  rw[if_neg h22]
  refine rgz [] [[],[],[],[],[]] ?_
  iterate 5 refine op3 ?_
  refine qJ ?_
  refine qB.stepK [0,2,6,7,8] (zF rfl c4 (by simp)) (by conv=>lhs;simp) rfl ?_
  refine qB.nil ?_
  refine AW.seq (rgn [] [[],[0,6,7,8,30]] ?_)
  iterate 2 refine op3 ?_
  refine qA (cnd ?_ ?_)
  ·intro h30
   try simp at h30
   refine rgz [] [[],[],[]] ?_
   iterate 3 refine op3 ?_
   refine qJ ?_
   refine qB.stepK [6,7,8] (zF rfl c6 (by simp)) (by conv=>lhs;simp) rfl ?_
   refine qB.nil ?_
   refine rgn [] [[],[],[6,37],[6]] ?_
   iterate 4 refine op3 ?_
   refine qA ?_
   exact AW.ret (qZ (k:=by simp[wX]) (b:=by simp[h30]))
  intro h30
  try simp at h30
  refine AW.skip (rgn [] [[],[],[6,37],[6]] ?_)
  iterate 4 refine op3 ?_
  refine qA ?_
  exact AW.ret (qZ (k:=by simp[wX]) (b:=by simp[h30]))
 intro h22
 try simp at h22
 rw[if_pos h22]
 refine AW.skip (AW.seq (rgn [] [[],[0,6,7,8,30]] ?_))
 iterate 2 refine op3 ?_
 refine qA (cnd ?_ ?_)
 ·intro h30
  try simp at h30
  refine rgz [] [[],[],[]] ?_
  iterate 3 refine op3 ?_
  refine qJ ?_
  refine qB.stepK [6,7,8] (zF rfl c5 (by simp)) (by conv=>lhs;simp) rfl ?_
  refine qB.nil ?_
  refine rgn [] [[],[],[6,37],[6]] ?_
  iterate 4 refine op3 ?_
  refine qA ?_
  exact AW.ret (qZ (k:=by simp[wX]) (b:=by simp[h30]))
 intro h30
 try simp at h30
 refine AW.skip (rgn [] [[],[],[6,37],[6]] ?_)
 iterate 4 refine op3 ?_
 refine qA ?_
 exact AW.ret (qZ (k:=by simp[wX]) (b:=by simp[h30]))
@[simp] def rsC (s:RG):List V:=[.ptr 5 0,.p (.sl 1 (s.left.map Sy.pr)),.p (.int .i64 s.deep),.p (.bool s.bad)]
@[simp] theorem zUC (n:Nat) (s:RG):(wS n s).ss=s.ss:=rfl
@[simp] theorem drop_left (n:Nat) (s:RG):(wS n s).left=s.left.drop n:=rfl
@[simp] theorem qUW (n:Nat) (s:RG):(wS n s).deep=s.deep:=rfl
@[simp] theorem wCA (n:Nat) (s:RG):(wS n s).bad=s.bad:=rfl
@[simp] theorem wDY (s:RG):(qSJ s).ss=s.ss:=rfl
@[simp] theorem wCD (s:RG):(qSJ s).left=s.left:=rfl
@[simp] theorem wCE (s:RG):(qSJ s).deep=s.deep:=rfl
@[simp] theorem wCM (s:RG):(qSJ s).bad=true:=rfl
@[simp] theorem zVR (b:Bool) (s:RG):(wL b s).ss=s.ss:=rfl
@[simp] theorem or_left (b:Bool) (s:RG):(wL b s).left=s.left:=rfl
@[simp] theorem qWL (b:Bool) (s:RG):(wL b s).deep=s.deep:=rfl
@[simp] theorem zXM (b:Bool) (s:RG):(wL b s).bad=(s.bad || b):=rfl
@[simp] theorem qPY (ss:List XS) (s:RG):(wK ss s).ss=ss:=rfl
@[simp] theorem qJN (ss:List XS) (s:RG):(wK ss s).left=s.left:=rfl
@[simp] theorem wBR (ss:List XS) (s:RG):(wK ss s).deep=s.deep:=rfl
@[simp] theorem wCJ (ss:List XS) (s:RG):(wK ss s).bad=s.bad:=rfl
@[simp] theorem zUE (n:Int) (s:RG):(kO n s).ss=s.ss:=rfl
@[simp] theorem qHF (n:Int) (s:RG):(kO n s).left=s.left:=rfl
@[simp] theorem qMB (n:Int) (s:RG):(kO n s).deep=s.deep+n:=rfl
@[simp] theorem wCB (n:Int) (s:RG):(kO n s).bad=s.bad:=rfl
@[simp] theorem zYQ (l:List Int):(List.take l.length (List.map Sy.pr l)).tail=List.map Sy.pr l.tail:=by rw[List.take_of_length_le (by simp)];simp
theorem qQT {l:List Int} (h:0<l.length):l[0]?=some (l.headD 0):=by
 cases l with
 | nil=>cases h
 | cons t l=>rfl
theorem qWK {s:RG} (h:qCB s.left):zI s<=1114111:=by
 unfold zI
 split
 ·omega
 rename_i e
 cases hl:s.left with
 | nil=>exact(e (.inr hl)).elim
 | cons c l=>exact(h c (by simp[hl])).2
theorem qJQ (s:RG):AX Tryz.prog G 235 [.ptr 2 0] [(2,.vars 209 (rsC s)),(5,.vars 207 [.ms 6]),(6,.mach 215 3 (s.ss.map XS.ms))] (.p (.int .i32 (zI s))) [2,5,6] [(2,.vars 209 (rsC s)),(5,.vars 207 [.ms 6]),(6,.mach 215 3 (s.ss.map XS.ms))]:=by
 refine AX.introU tok 900 Tryz.func235 (by kernel_rfl) rfl rfl ?_
 simp only[Tryz.f235,qG,List.map_cons,List.map_nil]
 refine rgn [] [[0]] ?_
 refine op3 ?_
 refine qA (AW.seq (rgn [] [[],[],[],[],[0,7],[],[],[],[],[0,7,12],[],[0,14]] ?_))
 iterate 5 refine op3 ?_
 iterate 6 refine op4 ?_
 refine op3 ?_
 refine qA (cnd ?_ ?_)
 ·intro h14
  try simp at h14
  rw[show zI s = -1 from by rcases h14 with h|h <;> simp[zI,h]]
  refine rgn [] [[]] ?_
  refine op3 ?_
  refine qA ?_
  exact AW.ret qZ
 intro h14
 try simp at h14
 rw[show zI s=s.left.headD 0 from by simp[zI,h14.1,h14.2]]
 have hix:=qQT (l:=s.left) (List.length_pos_iff.2 h14.2)
 generalize s.left.headD 0=t at *
 refine AW.skip (rgn [.int .i32 t] [[],[],[],[18],[],[],[2]] ?_)
 iterate 7 refine op3 ?_ (hv:=by first|exact True.intro|(simp[hix];done)|(simp[hix];omega)|(simp;exact List.length_pos_iff.2 h14.2);done|omega|simp)
 refine qA ?_
 exact AW.ret qZ
theorem qFN (w:List UInt8) (s:RG) (hr:qCB s.left) (hw:∀ b∈w,b.toNat<128) (hl:w.length<=100):AX Tryz.prog G 217 [.ptr 2 0,.p (.str w)] [(2,.vars 209 (rsC s)),(5,.vars 207 [.ms 6]),(6,.mach 215 3 (s.ss.map XS.ms))] (.tuple [.p (.int .i32 (zI s)),.p (.bool (wB w s))]) [2,5,6] [(2,.vars 209 (rsC (qU w s))),(5,.vars 207 [.ms 6]),(6,.mach 215 3 ((qU w s).ss.map XS.ms))]:=by
 refine AX.introU tok 900 Tryz.func217 (by kernel_rfl) rfl rfl ?_
 simp only[Tryz.f217,qG,List.map_cons,List.map_nil]
 have c1:=qJQ (G:=G) s
 have hp:=qWK hr
 have hC:=fun h0=>qEE (G:=G) w (zI s) h0 hp hw hl
 have hT:wB w s = !(decide (zI s<0) || !qDA w (zI s)):=rfl
 have hN:qU w s=if wB w s=true then wS 1 s else s:=rfl
 refine rgn [] [[],[0,1]] ?_
 iterate 2 refine op3 ?_
 refine qA (rgn [] [[]] ?_)
 refine op3 ?_
 refine qJ ?_
 refine qB.stepK [0,1,8] (zF rfl c1 (by simp)) (by conv=>lhs;simp) rfl ?_
 refine qB.run [[0,1,6]] ?_
 refine op3 ?_
 refine qA (AW.seq (rgn [.nilp,.bool (qDA w (zI s))] [[],[],[],[],[],[0,6,11,14],[],[0,6,16]] ?_))
 iterate 3 refine op3 ?_ (hv:=by first|exact True.intro|(exact fun h=>⟨h,hC h⟩;done)|omega|simp)
 iterate 4 refine op4 ?_ (hv:=by first|exact True.intro|(exact fun h=>⟨h,hC h⟩;done)|omega|simp)
 refine op3 ?_ (hv:=by first|exact True.intro|(exact fun h=>⟨h,hC h⟩;done)|omega|simp)
 refine qA (cnd ?_ ?_)
 ·intro h16
  try simp at h16
  rw[show wB w s=false from by rw[hT];rcases h16 with h|h <;> simp[h]]at *
  rw[show qU w s=s from by rw[hN];rfl]
  refine rgn [] [[],[],[4,5]] ?_
  iterate 3 refine op3 ?_
  refine qA ?_
  exact AW.ret qZ
 intro h16
 try simp at h16
 have hf:wB w s=true:=by rw[hT];simp at h16 ⊢; omega
 have hlf:=List.length_pos_iff.2 (qIG hf).1
 rw[hf]
 rw[show qU w s=wS 1 s from by rw[hN,if_pos hf]]
 refine AW.skip (rgn [] [[],[],[],[],[6,18,22],[],[],[],[6]] ?_)
 iterate 9 refine op3 ?_
 refine qA (rgn [] [[],[],[4,5]] ?_)
 iterate 3 refine op3 ?_
 refine qA ?_
 exact AW.ret qZ
theorem qQY (s:RG):AX Tryz.prog G 259 [.ptr 2 0] [(2,.vars 209 (rsC s)),(5,.vars 207 [.ms 6]),(6,.mach 215 3 (s.ss.map XS.ms))] (.p (.int .i32 (zK s).1)) [2,5,6] [(2,.vars 209 (rsC ((zK s).2))),(5,.vars 207 [.ms 6]),(6,.mach 215 3 (((zK s).2).ss.map XS.ms))]:=by
 refine AX.introU tok 900 Tryz.func259 (by kernel_rfl) rfl rfl ?_
 simp only[Tryz.f259,qG,List.map_cons,List.map_nil]
 have c1:=qJQ (G:=G) s
 have hi:=zPA (G:=G) qQI (zI s)
 refine rgn [] [[0]] ?_
 refine op3 ?_
 refine qA (rgn [] [[]] ?_)
 refine op3 ?_
 refine qJ ?_
 refine qB.stepK [0,6] (zF rfl c1 (by simp)) (by conv=>lhs;simp) rfl ?_
 refine qB.run [[0,3]] ?_
 refine op3 ?_
 refine qA (rgn [.agg [.int .i32 48,.int .i32 57],.agg [.int .i32 97,.int .i32 122],.agg [.int .i32 65,.int .i32 90],.nilp,.bool (inR qQI (zI s))] [[],[],[],[],[],[0,3,12],[0,3,4]] ?_)
 iterate 7 refine oq1 tok hi ?_
 refine qA (AW.seq (AW.block (rgn [] [[],[],[0,3,4,13]] ?_)))
 iterate 3 refine op3 ?_
 refine qA (cnd ?_ ?_)
 ·intro h13
  try simp at h13
  have hE:zK s=(10,wS 1 s):=by simp[zK,h13]
  have hlf:=List.length_pos_iff.2 (yJ (s:=s) (by omega)).1
  rw[hE]
  refine rgz [] [[]] ?_
  refine op3 ?_
  refine qA (rgn [] [[],[],[],[],[3,32,36],[],[],[],[3]] ?_)
  iterate 9 refine op3 ?_
  refine qA (rgn [] [[],[2]] ?_)
  iterate 2 refine op3 ?_
  refine qA ?_
  exact AW.ret qZ
 intro h13
 try simp at h13
 refine rgn [] [[],[],[0,3,4,16]] ?_
 iterate 3 refine op3 ?_
 refine qA (cnd ?_ ?_)
 ·intro h16
  try simp at h16
  have hE:zK s=(9,wS 1 s):=by simp[zK,h16]
  have hlf:=List.length_pos_iff.2 (yJ (s:=s) (by omega)).1
  rw[hE]
  refine rgz [] [[]] ?_
  refine op3 ?_
  refine qA (rgn [] [[],[],[],[],[3,32,36],[],[],[],[3]] ?_)
  iterate 9 refine op3 ?_
  refine qA (rgn [] [[],[2]] ?_)
  iterate 2 refine op3 ?_
  refine qA ?_
  exact AW.ret qZ
 intro h16
 try simp at h16
 refine rgn [] [[],[],[],[],[],[0,3,4,25],[],[],[0,3,28],[0,3,19]] ?_
 iterate 10 first|refine op3 ?_|refine op4 ?_
 refine qA (cnd ?_ ?_)
 ·intro h19
  try simp at h19
  have hE:zK s=(0,qSJ s):=by
   unfold zK
   rw[if_neg h13,if_neg h16,if_pos (by simpa[or_assoc]using h19)]
  rw[hE]
  refine rgn [] [[],[],[],[41]] ?_
  iterate 4 refine op3 ?_
  refine qA (rgn [] [[]] ?_)
  refine op3 ?_
  refine qA ?_
  exact AW.ret qZ
 intro h19
 try simp at h19
 have hE:zK s=(zI s,wS 1 s):=by
  unfold zK
  rw[if_neg h13,if_neg h16,if_neg (by simpa[and_assoc]using h19)]
 have hlf:=List.length_pos_iff.2 (yJ (s:=s) (by omega)).1
 rw[hE]
 refine AW.skip (rgn [] [[],[],[],[],[3,32,36],[],[],[],[3]] ?_)
 iterate 9 refine op3 ?_
 refine qA (rgn [] [[],[2]] ?_)
 iterate 2 refine op3 ?_
 refine qA ?_
 exact AW.ret qZ
theorem qGV (s:RG) (hr:qCB s.left):AX Tryz.prog G 255 [.ptr 2 0] [(2,.vars 209 (rsC s)),(5,.vars 207 [.ms 6]),(6,.mach 215 3 (s.ss.map XS.ms))] (.p (.int .i32 (zD s).1)) [2,5,6] [(2,.vars 209 (rsC ((zD s).2))),(5,.vars 207 [.ms 6]),(6,.mach 215 3 (((zD s).2).ss.map XS.ms))]:=by
 refine AX.introU tok 900 Tryz.func255 (by kernel_rfl) rfl rfl ?_
 simp only[Tryz.f255,qG,List.map_cons,List.map_nil]
 have c1:=qFN (G:=G) [92] s hr (by decide) (by decide)
 have hN:wB [92] s=false->qU [92] s=s:=fun h=>by unfold qU;rw[if_neg (by simp[h])]
 have c2:=qQY (G:=G) (qU [92] s)
 have c3:=qJQ (G:=G) s
 have hp:=qWK hr
 have hC:=fun h0=>qEE (G:=G) [91,93,94,45] (zI s) h0 hp (by decide) (by decide)
 have hS1:wB [92] s=true->zD s=zK (qU [92] s):=fun h=>by unfold zD;rw[if_pos h]
 have hS2:wB [92] s=false->(zI s<0\/qDA [91,93,94,45] (zI s)=true)->zD s=(0,qSJ s):=fun h k=>by unfold zD;rw[if_neg (by simp[h]),if_pos k]
 have hS3:wB [92] s=false->¬ (zI s<0\/qDA [91,93,94,45] (zI s)=true)->zD s=(zI s,wS 1 s):=fun h k=>by unfold zD;rw[if_neg (by simp[h]),if_neg k]
 generalize qU [92] s=s1 at *
 generalize wB [92] s=b at *
 refine rgn [] [[0]] ?_
 refine op3 ?_
 refine qA (AW.seq (rgn [] [[]] ?_))
 refine op3 ?_
 refine qJ ?_
 refine qB.stepK [0,8] (zF rfl c1 (by simp)) (by conv=>lhs;simp) rfl ?_
 refine qB.run [[],[],[],[0,10],[0,4]] ?_
 iterate 5 refine op3 ?_
 refine qA (rgn [] [[0,11]] ?_)
 refine op3 ?_
 refine qA (cnd ?_ ?_)
 ·intro h11
  try simp at h11
  rw[hS1 h11]
  refine rgn [] [[]] ?_
  refine op3 ?_
  refine qJ ?_
  refine qB.stepK [13] (zF rfl c2 (by simp)) (by conv=>lhs;simp) rfl ?_
  refine qB.run [[2]] ?_
  refine op3 ?_
  refine qA ?_
  exact AW.ret qZ
 intro h11
 try simp at h11
 obtain rfl:=hN h11
 refine AW.skip (rgn [] [[]] ?_)
 refine op3 ?_
 refine qJ ?_
 refine qB.stepK [0,15] (zF rfl c3 (by simp)) (by conv=>lhs;simp) rfl ?_
 refine qB.run [[0,5]] ?_
 refine op3 ?_
 refine qA (AW.seq (rgn [.nilp,.bool (qDA [91,93,94,45] (zI s1))] [[],[],[],[],[],[0,5,21]] ?_))
 iterate 3 refine op3 ?_ (hv:=by first|exact True.intro|(exact fun h=>⟨h,hC h⟩;done)|omega|simp)
 iterate 2 refine op4 ?_ (hv:=by first|exact True.intro|(exact fun h=>⟨h,hC h⟩;done)|omega|simp)
 refine op3 ?_ (hv:=by first|exact True.intro|(exact fun h=>⟨h,hC h⟩;done)|omega|simp)
 refine qA (cnd ?_ ?_)
 ·intro h21
  try simp at h21
  rw[hS2 h11 (by simpa using h21)]
  refine rgn [] [[],[],[],[34]] ?_
  iterate 4 refine op3 ?_
  refine qA (rgn [] [[]] ?_)
  refine op3 ?_
  refine qA ?_
  exact AW.ret qZ
 intro h21
 try simp at h21
 have hk:¬ (zI s1<0\/qDA [91,93,94,45] (zI s1)=true):=by simpa using h21
 rw[hS3 h11 hk]
 have hlf:=List.length_pos_iff.2 (yJ (s:=s1) (by omega)).1
 refine AW.skip (rgn [] [[],[],[],[],[5,25,29],[],[],[],[5]] ?_)
 iterate 9 refine op3 ?_
 refine qA (rgn [] [[],[2]] ?_)
 iterate 2 refine op3 ?_
 refine qA ?_
 exact AW.ret qZ
theorem qKG:∀ H:List (Nat × Box),zL [] H=H
 | []=>rfl
 | (k,c)::r=>by simp[zL,qKG r]
theorem zVJ {P:Program} {st:St} {o:Oper} {x:Operand} {args:Array Operand} {tys:Array TypeId} {f:FuncId} {xs:List V} {r:V} (ho:o.op = .call { callee := .value x,args:=args,argTypes:=tys }) (hc:AX P G f xs [] r [] []) (h:CX G st x args.toList f xs [] r [] []):Sy.Yields P G o st r st:=by
 have y:=zF ho hc h
 have e:({ St.rest st [] []with H:=[]++(St.rest st [] []).H }:St)=st:=by
  simp only[St.rest,List.map_nil,List.filter_nil,St.killAll,qKG,List.nil_append]
 rw[e]at y;exact y
def zFR (c:Int):V:=if wF c=[] then .nilsl else .p (.sl 2 ((wF c).map spC))
theorem qKO {c:Int} (h:wF c=[]):zFR c = .nilsl:=if_pos h
theorem qDF {c:Int} (h:wF c≠[]):zFR c = .p (.sl 2 ((wF c).map spC)):=if_neg h
@[simp] theorem zZG (c:Int):V.cells (zFR c)=some [zFR c]:=by unfold zFR;split <;> rfl
theorem zII (c:Int):zAJ (zFR c)=some (!decide (wF c≠[])):=by
 by_cases h:wF c=[]
 ·rw[qKO h];simp[zAJ,h]
 rw[qDF h]
 cases hl:wF c with
 | nil=>exact(h hl).elim
 | cons a l=>simp[zAJ]
theorem zCE (c:Int):AX Tryz.prog G 254 [.p (.int .i32 c)] [] (zFR c) [] []:=by
 by_cases h:wF c=[]
 ·rw[qKO h];exact zLR c h
 rw[qDF h];exact AX.ofFn (zCD c h) (by simp[V.fitsL,V.fits])
theorem qQX (s:RG):(zK s).2.ss=s.ss:=by
 unfold zK;split;rfl;split;rfl;split <;> rfl
theorem zNY (c:Int) (s:RG) (hl:s.ss.length<=50000):AX Tryz.prog G 251 [.ptr 2 0,.p (.int .i32 c)] [(2,.vars 209 (rsC s)),(5,.vars 207 [.ms 6]),(6,.mach 215 3 (s.ss.map XS.ms))] (.agg [.p (.int .i64 (qJS c s).1.1),.p (.int .i64 (qJS c s).1.2)]) [2,5] [(2,.vars 209 (rsC ((qJS c s).2))),(5,.vars 207 [.ms 6]),(6,.mach 215 3 (((qJS c s).2).ss.map XS.ms))]:=by
 refine AX.introU tok 900 Tryz.func251 (by kernel_rfl) rfl rfl ?_
 simp only[Tryz.f251,qG,List.map_cons,List.map_nil]
 refine rgn [] [[],[0,3,4]] ?_
 iterate 2 refine op3 ?_
 refine qA (rgn [] [[],[],[],[3,4,8],[]] ?_)
 iterate 5 refine op3 ?_
 refine qJ ?_
 refine qB.freezeV 903 (by conv=>lhs;simp) ?_
 refine qB.stepK [4,10] (zF rfl (qZU s.ss (.one c) 260 [.int .i32 c] rfl hl) (by simp)) (by conv=>lhs;simp) rfl ?_
 refine qB.run [[4]] ?_
 refine op3 ?_
 refine qA ?_
 exact AW.ret (qZ (k:=by simp[qJS]) (b:=by simp[qJS]))
theorem zDU (s:RG) (hl:s.ss.length<=50000):AX Tryz.prog G 250 [.ptr 2 0] [(2,.vars 209 (rsC s)),(5,.vars 207 [.ms 6]),(6,.mach 215 3 (s.ss.map XS.ms))] (.agg [.p (.int .i64 (yW s).1.1),.p (.int .i64 (yW s).1.2)]) [2,5] [(2,.vars 209 (rsC ((yW s).2))),(5,.vars 207 [.ms 6]),(6,.mach 215 3 (((yW s).2).ss.map XS.ms))]:=by
 refine AX.introU tok 900 Tryz.func250 (by kernel_rfl) rfl rfl ?_
 simp only[Tryz.f250,qG,List.map_cons,List.map_nil]
 have c1:=qJQ (G:=G) s
 have c2:=zCE (G:=G) (zI s)
 have c3:=qQY (G:=G) s
 have c4:=zNY (G:=G) (zK s).1 (zK s).2 (by rw[qQX];exact hl)
 refine rgn [] [[]] ?_
 refine op3 ?_
 refine qA (AW.seq ?_)
 by_cases hs1:wF (zI s)≠[]
 ·
  rw[qDF hs1]at c2
  refine rgn [] [[]] ?_
  refine op3 ?_
  refine qJ ?_
  refine qB.stepK [0,2,5] (zF rfl c1 (by simp)) (by conv=>lhs;simp) rfl ?_
  refine qB.stepK [0,2,6] (zF rfl c2 (by simp)) (by conv=>lhs;simp) rfl ?_
  refine qB.run [[],[0,2,3]] ?_
  iterate 2 refine op3 ?_
  refine qA (rgn [] [[]] ?_)
  refine op3 ?_
  refine qJ ?_
  refine qB.stepK [0,2,3,8] (qVM tok true rfl rfl (by conv=>lhs;simp) trivial (by rw[<-qDF hs1,zII];simp[hs1])) (by conv=>lhs;simp) rfl ?_
  refine qB.nil ?_
  refine cnd ?_ ?_
  ·intro h8
   try simp at h8
   have hS:yW s=(wX s.ss,wK (vE s.ss (.cls (wF (zI s)))) (wS 1 s)):=by unfold yW;rw[if_pos hs1]
   rw[hS]
   have hp0:0<=zI s:=by
    refine Int.not_lt.1 fun h=>hs1 ?_
    unfold wF;rw[if_neg (by omega),if_neg (by omega),if_neg (by omega)]
   have hlf:=List.length_pos_iff.2 (yJ (s:=s) hp0).1
   refine rgn [] [[],[],[],[],[],[0,2,3,9,14],[],[],[0,2,3]] ?_
   iterate 9 refine op3 ?_
   refine qA (rgn [] [[],[],[],[2,3,20],[]] ?_)
   iterate 5 refine op3 ?_
   refine qJ ?_
   refine qB.freezeV 903 (by conv=>lhs;simp) ?_
   refine qB.stepK [2,22] (zF rfl (qZU s.ss (.cls (wF (zI s))) 258 [.sl 2 ((wF (zI s)).map spC)] rfl hl) (by simp)) (by conv=>lhs;simp) rfl ?_
   refine qB.run [[2]] ?_
   refine op3 ?_
   refine qA ?_
   exact AW.ret qZ
  intro h8
  try simp at h8
 ·
  rw[qKO (Classical.not_not.1 hs1)]at c2
  refine rgn [] [[]] ?_
  refine op3 ?_
  refine qJ ?_
  refine qB.stepK [0,2,5] (zF rfl c1 (by simp)) (by conv=>lhs;simp) rfl ?_
  refine qB.stepK [0,2,6] (zF rfl c2 (by simp)) (by conv=>lhs;simp) rfl ?_
  refine qB.run [[],[0,2,3]] ?_
  iterate 2 refine op3 ?_
  refine qA (rgn [] [[]] ?_)
  refine op3 ?_
  refine qJ ?_
  refine qB.stepK [0,2,3,8] (qVM tok false rfl rfl (by conv=>lhs;simp) trivial rfl) (by conv=>lhs;simp) rfl ?_
  refine qB.nil ?_
  refine cnd ?_ ?_
  ·intro h8
   try simp at h8
  intro h8
  try simp at h8
  have hS:yW s=qJS (zK s).1 (zK s).2:=by unfold yW;rw[if_neg hs1]
  rw[hS]
  refine AW.skip (rgn [] [[],[]] ?_)
  iterate 2 refine op3 ?_
  refine qJ ?_
  refine qB.stepK [2,23,25] (zF rfl c3 (by simp)) (by conv=>lhs;simp) rfl ?_
  refine qB.stepK [2,26] (zF rfl c4 (by simp)) (by conv=>lhs;simp) rfl ?_
  refine qB.run [[2]] ?_
  refine op3 ?_
  refine qA ?_
  exact AW.ret qZ
theorem qPM (s:RG):(zD s).2.bad=true\/(zD s).2.left.length+1<=s.left.length:=by
 have he:∀ s:RG,(zK s).2.bad=true\/(zK s).2.left.length+1<=s.left.length:=fun s=>by
  unfold zK
  split
  ·rename_i h;have:=List.length_pos_iff.2 (yJ (s:=s) (by omega)).1;right;simp;omega
  split
  ·rename_i h;have:=List.length_pos_iff.2 (yJ (s:=s) (by omega)).1;right;simp;omega
  split
  ·left;rfl
  rename_i h;have:=List.length_pos_iff.2 (yJ (s:=s) (by omega)).1;right;simp;omega
 unfold zD
 split
 ·rename_i h
  have:=qQD h
  rcases he (qU [92] s)with h1|h1
  ·exact .inl h1
  right;omega
 split
 ·left;rfl
 rename_i h;have:=List.length_pos_iff.2 (yJ (s:=s) (by omega)).1;right;simp;omega
theorem zAK {w:List UInt8} {s:RG} (h:s.bad=true):(qU w s).bad=true:=by unfold qU;split <;> exact h
theorem zDV {s:RG} (h:s.bad=true):(zD s).2.bad=true:=by
 have hp:zI s = -1:=by unfold zI;rw[if_pos (.inl h)]
 have ht:wB [92] s=false:=by unfold wB;simp[hp]
 unfold zD
 rw[if_neg (by simp[ht]),if_pos (.inl (by omega))];rfl
theorem zNE (s:RG):(kY s).2.bad=true\/(kY s).2.left.length+1<=s.left.length:=by
 have h1:=qPM s
 have g2:=(Gr.next [45] (zD s).2).left
 unfold kY
 simp only[zXM,or_left,Bool.or_eq_true]
 split
 ·rcases h1 with h1|h1
  ·exact .inl (.inl (zDV (zAK h1)))
  rcases qPM (qU [45] (zD s).2)with h2|h2
  ·exact .inl (.inl h2)
  right;omega
 rcases h1 with h1|h1
 ·exact .inl (.inl (zAK h1))
 right;simp only;omega
theorem zKY {s:RG} (h:s.bad=true) (n:Nat) (l:List Sp):yO n l s=(l,s):=by
 cases n with
 | zero=>rfl
 | succ n=>unfold yO;rw[if_pos h]
@[simp] theorem zSQ (l:List Int):List.take l.length (List.map Sy.pr l)=List.map Sy.pr l:=List.take_of_length_le (by simp)
theorem qLI (s:RG):(zD s).2.ss=s.ss:=by
 unfold zD;split
 ·rw[qQX];unfold qU;split <;> rfl
 split <;> rfl
theorem zHD (w:List UInt8) (s:RG):(qU w s).ss=s.ss:=by unfold qU;split <;> rfl
theorem zGV (s:RG):(kY s).2.ss=s.ss:=by
 unfold kY
 simp only[zVR]
 split
 ·rw[qLI,zHD,qLI]
 rw[zHD,qLI]
def qHT (s:RG):Nat:=s.left.length+if s.bad=true then 0 else 1
theorem zLQ (c:Int):(wF c).length<=4:=by unfold wF;split;simp;split;simp;split <;> simp
theorem qTE {s:RG} (h:s.bad=false):qHT (kY s).2+1<=qHT s:=by
 have h1:=zNE s
 have h2:=(Gr.span s).left
 simp only[qHT,h,Bool.false_eq_true,if_false]
 split
 ·omega
 rename_i hb
 rcases h1 with h1|h1
 ·exact(hb h1).elim
 omega
theorem zOU (s:RG) (hr:qCB s.left) (hl:s.ss.length<=50000) (hn:s.left.length<=1000):AX Tryz.prog G 244 [.ptr 2 0] [(2,.vars 209 (rsC s)),(5,.vars 207 [.ms 6]),(6,.mach 215 3 (s.ss.map XS.ms))] (.agg [.p (.int .i64 (qBF s).1.1),.p (.int .i64 (qBF s).1.2)]) [2,5] [(2,.vars 209 (rsC ((qBF s).2))),(5,.vars 207 [.ms 6]),(6,.mach 215 3 (((qBF s).2).ss.map XS.ms))]:=by
 refine AX.introU tok 900 Tryz.func244 (by kernel_rfl) rfl rfl ?_
 simp only[Tryz.f244,qG,List.map_cons,List.map_nil]
 have c1:=qFN (G:=G) [94] s hr (by decide) (by decide)
 have g0:=Gr.next [94] s
 have e0:(qU [94] s).ss=s.ss:=by unfold qU;split <;> rfl
 have hI:qBF s=(let a:=yO ((qU [94] s).left.length+1) [] (qU [94] s);let b:=wL (decide (a.1.length=0)) a.2;(wX b.ss,wK (vE b.ss (.items a.1 (wB [94] s))) b)):=rfl
 have hr0:=g0.runes hr
 have hn0:=g0.left
 rw[hI]
 clear hI g0
 generalize qU [94] s=s0 at *
 generalize wB [94] s=ng at *
 generalize hN:s0.left.length+1=N at *
 refine rgn [] [[]] ?_
 refine op3 ?_
 refine qA (rgn [] [[]] ?_)
 refine op3 ?_
 refine qJ ?_
 refine qB.stepK [0,2,13] (zF rfl c1 (by simp)) (by conv=>lhs;simp) rfl ?_
 refine qB.run [[],[],[],[],[0,2,4,15],[0,2,4]] ?_
 iterate 6 refine op3 ?_
 refine qA (rgn [] [[]] ?_)
 refine op3 ?_
 refine qA (AW.seq (AW.block ?_))
 refine AW.beginBox 905 990 0 268 2 (by simp;exact⟨rfl,rfl⟩) (by simp) (by simp) (by conv=>lhs;simp) ?_
 refine AW.loop (α:=Nat × List Sp × RG) (fun a=>yO N [] s0=yO a.1 a.2.1 a.2.2/\qHT a.2.2<=a.1/\qCB a.2.2.left/\a.2.1.length+4 * qHT a.2.2<=5000/\a.2.2.ss.length<=50000) (fun a=>⟨zA 120 [(0,.ptr 2 0),(2,.ptr 902 0),(4,.ptr 904 0),(5,.ptr 905 0)],[2,5,6],[(2,.vars 209 (rsC a.2.2)),(5,.vars 207 [.ms 6]),(6,.mach 215 3 (a.2.2.ss.map XS.ms)),(902,.vars 151 [.p (.int .i64 0),.p (.int .i64 0)]),(904,.vars 4 [.p (.bool ng)]),(905,.vars 265 [.ms 990]),(990,.row 268 2 (a.2.1.map spC))],900⟩) (fun a=>a.1) ((N,[],s0)) ⟨rfl,by simp[qHT];split <;> omega,hr0,by simp[qHT];split <;> omega,by simp only;rw[e0];exact hl⟩ ⟨qE (by simp),rfl,by simp,by simp⟩ ?_
 rintro⟨n,l,t⟩ ⟨h1,h2,h3,h4,h5⟩
 simp only at h1 h2 h3 h4 h5
 refine AW.seq (rgn [] [[],[],[],[],[0,2,4,5,20]] ?_)
 iterate 5 refine op3 ?_
 refine qA (cnd ?_ ?_)
 ·intro h20
  try simp at h20
  obtain⟨k,rfl⟩:∃ k,n=k+1:=⟨n-1,by simp[qHT,h20]at h2;omega⟩
  have c3:=qFN (G:=G) [93] t h3 (by decide) (by decide)
  have hT1:wB [93] t=true->yO (k+1) l t=(l,qU [93] t):=fun h=>by
   conv=>lhs;unfold yO
   rw[if_neg (by simp[h20]),if_pos h]
  have hN1:wB [93] t=false->qU [93] t=t:=fun h=>by unfold qU;rw[if_neg (by simp[h])]
  have hT2:wB [93] t=false->yO (k+1) l t=if 1<t.left.length/\t.left.headD 0=92/\wF (t.left.getD 1 0)≠[] then yO k (l++wF (t.left.getD 1 0)) (wS 2 t) else yO k (l++[(kY t).1]) (kY t).2:=fun h=>by
   conv=>lhs;unfold yO
   rw[if_neg (by simp[h20]),if_neg (by simp[h])]
   simp only[hN1 h]
  have hG1:(qU [93] t).ss=t.ss:=by unfold qU;split <;> rfl
  refine AW.skip (AW.block (AW.seq (rgn [] [[]] ?_)))
  refine op3 ?_
  refine qJ ?_
  refine qB.stepK [0,2,4,5,23] (zF rfl c3 (by simp)) (by conv=>lhs;simp) rfl ?_
  refine qB.run [[],[],[],[0,2,4,5,25],[0,2,4,5,7]] ?_
  iterate 5 refine op3 ?_
  refine qA (rgn [] [[0,2,4,5,26]] ?_)
  refine op3 ?_
  refine qA (cnd ?_ ?_)
  ·intro h26
   try simp at h26
   have hE:yO N [] s0=(l,qU [93] t):=by rw[h1,hT1 h26]
   have h5':(qU [93] t).ss.length<=50000:=by rw[hG1];exact h5
   rw[hE]
   clear h1 h2 h3 h4 h5 h20 hT1 hN1 hT2 hG1 c3 hE h26
   generalize qU [93] t=t at *
   have h5:=h5'
   refine AW.exit ?_
   simp
   refine rgn [] [[],[],[],[],[],[0,2,4,5,102,107],[],[],[],[0,2,4,5,102,111],[],[],[0,2,4,5]] ?_
   iterate 6 refine op3 ?_
   iterate 3 refine op4 ?_
   iterate 4 refine op3 ?_
   refine qA (rgn [] [[],[],[],[2,4,5,117],[]] ?_)
   iterate 5 refine op3 ?_
   refine qJ ?_
   refine qB.freeze 990 (by conv=>lhs;simp) ?_
   refine qB.freezeV 905 (by conv=>lhs;simp) ?_
   refine qB.freezeV 904 (by conv=>lhs;simp) ?_
   refine qB.stepK [2,119] (zF rfl (qZT t.ss (.items l ng) 256 [.sl 2 (l.map spC)] [.bool ng] rfl h5) (by simp)) (by conv=>lhs;simp) rfl ?_
   refine qB.run [[2]] ?_
   refine op3 ?_
   refine qA ?_
   exact AW.ret qZ
  intro h26
  try simp at h26
  have hNN:=hN1 h26
  have hT:=hT2 h26
  rw[hNN]
  clear hT1 hN1 hT2 hG1 c3
  have hh0:1<t.left.length->t.left[0]?=some (t.left.headD 0):=fun h=>qQT (by omega)
  have hh1:1<t.left.length->t.left[1]?=some (t.left.getD 1 0):=fun h=>by simp[List.getD_eq_getElem?_getD,h]
  have c2:=zCE (G:=G) (t.left.getD 1 0)
  generalize t.left.headD 0=a0 at *
  generalize t.left.getD 1 0=a1 at *
  refine AW.skip (AW.seq ?_)
  by_cases hs6:wF a1≠[]
  ·
   rw[qDF hs6]at c2
   refine rgn [.int .i32 a0,.int .i32 a1] [[],[],[],[],[0,2,4,5,31],[],[],[],[],[0,2,4,5,33,36],[],[],[],[0,2,4,5,33,40],[],[],[],[0,2,4,5,42,44],[],[],[],[0,2,4,5,42,48]] ?_
   iterate 22 first|refine op3 ?_ (hv:=by first|exact True.intro|(intros;exact⟨by omega,hh0 (by omega)⟩)|(intros;exact⟨by omega,hh1 (by omega)⟩)|(intros;exact⟨⟨by omega,by assumption⟩,hh1 (by omega)⟩);done|omega|simp)|refine op4 ?_ (hv:=by first|exact True.intro|(first|(intros;exact⟨by omega,hh0 (by omega)⟩)|(intros;exact⟨by omega,hh1 (by omega)⟩)|(intros;exact⟨⟨by omega,by assumption⟩,hh1 (by omega)⟩);done)|omega|simp)
   refine qJ ?_
   refine qB.stepYIf [0,2,4,5,42,49] 42 (b:=decide (1<(t.left.length:Int)) && decide (a0=92)) rfl rfl (by simp) (fun hb=>zVJ rfl c2 (by simp;simpa using hb)) (by conv=>lhs;simp) ?_
   refine qB.stepYIf [0,2,4,5,42,50] 42 (b:=decide (1<(t.left.length:Int)) && decide (a0=92)) rfl rfl (by simp) (fun hb=>qVM tok true rfl rfl (by conv=>lhs;simp) (by simpa using hb) (by rw[<-qDF hs6,zII];simp[hs6])) (by conv=>lhs;simp) ?_
   refine qB.run [[0,2,4,5,51]] ?_
   refine op3 ?_ (hv:=by first|exact True.intro|(intros;exact⟨by omega,hh0 (by omega)⟩)|(intros;exact⟨by omega,hh1 (by omega)⟩)|(intros;exact⟨⟨by omega,by assumption⟩,hh1 (by omega)⟩);done|omega|simp)
   refine qA (cnd ?_ ?_)
   ·intro h51
    try simp at h51
    obtain⟨g1,g2⟩:1<t.left.length/\a0=92:=⟨by omega,h51.2⟩
    have hcl:=zLQ a1
    have cc:=zCD (G:=G) a1 hs6
    have hh:=hh1 g1
    rw[if_pos ⟨g1,g2,hs6⟩]at hT
    refine AW.seqDrawR mixed 9 [[5],[0],[53],[54],[55],[56],[57],[58],[52,59]] [] (by kernel_rfl) ?_
    iterate 5 refine qS.o0 tok (hv:=by first|exact True.intro|exact cc|(simp[hh];done)|(simp;omega);done|omega|simp) (k := ?_)
    refine qS.o1 tok (orc:=[.int .i32 a1]) (hv:=by first|exact True.intro|exact cc|(simp[hh];done)|(simp;omega);done|omega|simp) (k := ?_)
    refine qS.o0 tok (hv:=by first|exact True.intro|exact cc|(simp[hh];done)|(simp;omega);done|omega|simp) (k := ?_)
    refine qS.o1 tok (orc:=[.nilp,.sl 2 ((wF a1).map spC)]) (hv:=by first|exact True.intro|exact cc|(simp[hh];done)|(simp;omega);done|omega|simp) (k := ?_)
    refine qS.o0 tok (hv:=by first|exact True.intro|exact cc|(simp[hh];done)|(simp;omega);done|omega|simp) (k := ?_)
    refine qS.nil (by kernel_rfl) ⟨by kernel_rfl, ?_⟩
    refine qB.run [[0,2,4,5]] ?_
    refine op3 ?_
    refine qA ?_
    refine AW.keepE [0,2,4,5] (by conv=>lhs;simp) ?_
    refine AW.renE 960 990 (by simp) (by conv=>lhs;simp) ?_
    refine rgn [] [[],[],[],[],[],[0,2,4,5,61,66],[],[],[0,2,4,5]] ?_
    iterate 9 refine op3 ?_
    refine qA ?_
    refine AW.exit ?_
    simp only[inBlock, ↓reduceIte]
    exact⟨(k,l++wF a1,wS 2 t),⟨by rw[h1,hT],by simp[qHT,h20]at h2 ⊢; omega,fun c hc=>h3 c (List.mem_of_mem_drop hc),by simp[qHT,h20]at h4 ⊢; omega,h5⟩,by simp,qE (by simp),rfl,by simp,by simp⟩
   intro h51
   try simp at h51
   have hT':yO (k+1) l t=yO k (l++[(kY t).1]) (kY t).2:=by rw[hT,if_neg (by rintro⟨q1,q2,q3⟩;first|exact hs6 q3|(simp[q2]at h51;omega)|omega)]
   have c4:=qGV (G:=G) t h3
   have r4:=(Gr.single t).runes h3
   have c5:=qFN (G:=G) [45] (zD t).2 r4 (by decide) (by decide)
   have c6:=qGV (G:=G) (qU [45] (zD t).2) ((Gr.next [45] _).runes r4)
   have hlv:=qTE h20
   have gr:=(Gr.span t).runes h3
   have e5:(kY t).2.ss.length<=50000:=by rw[zGV];exact h5
   have hsp:kY t=(let c:Int × RG:=if wB [45] (zD t).2=true then zD (qU [45] (zD t).2) else((zD t).1,qU [45] (zD t).2);(⟨(zD t).1,c.1⟩,wL (decide (c.1<(zD t).1)) c.2)):=rfl
   clear hT h51 c2 hh0 hh1
   generalize kY t=S at *
   generalize zD t=A at *
   generalize wB [45] A.2=tk at *
   generalize qU [45] A.2=B at *
   generalize zD B=C at *
   refine AW.skip (rgn [] [[]] ?_)
   refine op3 ?_
   refine qJ ?_
   refine qB.stepK [0,2,4,5,70] (zF rfl c4 (by simp)) (by conv=>lhs;simp) rfl ?_
   refine qB.run [[],[],[0,2,4,5,8]] ?_
   iterate 3 refine op3 ?_
   refine qA (rgn [] [[],[],[],[0,2,4,5,8]] ?_)
   iterate 4 refine op3 ?_
   refine qA (AW.seq (rgn [] [[]] ?_))
   refine op3 ?_
   refine qJ ?_
   refine qB.stepK [0,2,4,5,8,77] (zF rfl c5 (by simp)) (by conv=>lhs;simp) rfl ?_
   refine qB.run [[],[],[],[0,2,4,5,8,79],[0,2,4,5,8,10]] ?_
   iterate 5 refine op3 ?_
   refine qA (rgn [] [[0,2,4,5,8,80]] ?_)
   refine op3 ?_
   refine qA (cnd ?_ ?_)
   ·intro h80
    try simp at h80
    simp only[h80, ↓reduceIte]at hsp
    subst hsp
    simp only at hT' hlv gr e5
    refine rgz [] [[]] ?_
    refine op3 ?_
    refine qJ ?_
    refine qB.stepK [0,2,4,5,8,82] (zF rfl c6 (by simp)) (by conv=>lhs;simp) rfl ?_
    refine qB.run [[],[0,2,4,5,8]] ?_
    iterate 2 refine op3 ?_
    refine qA (rgn [] [[],[],[],[],[],[0,2,4,5,8,84,89],[],[],[],[],[0,2,4,5,8,84,89,94],[],[],[0,2,4,5,8,95,97],[0,2,4,5,8]] ?_)
    iterate 6 refine op3 ?_
    iterate 5 refine op4 ?_
    iterate 4 refine op3 ?_
    refine qA (rgz [.agg [.int .i32 A.1,.int .i32 C.1]] [[],[],[],[0,2,4,5,101],[0,2,4,5]] ?_)
    iterate 5 refine op3 ?_
    refine qA ?_
    exact⟨(k,l++[⟨A.1,C.1⟩],wL (decide (C.1<A.1)) C.2),⟨by rw[h1,hT'],by simp only;omega,gr,by simp only[List.length_append,List.length_singleton];omega,e5⟩,by simp,qE (by simp[spC]),rfl,by simp[spC],by simp[spC]⟩
   intro h80
   try simp at h80
   simp only[h80,Bool.false_eq_true, ↓reduceIte]at hsp
   subst hsp
   simp only at hT' hlv gr e5
   refine AW.skip (rgn [] [[],[],[],[],[],[0,2,4,5,8,84,89],[],[],[],[],[0,2,4,5,8,84,89,94],[],[],[0,2,4,5,8,95,97],[0,2,4,5,8]] ?_)
   iterate 6 refine op3 ?_
   iterate 5 refine op4 ?_
   iterate 4 refine op3 ?_
   refine qA (rgz [.agg [.int .i32 A.1,.int .i32 A.1]] [[],[],[],[0,2,4,5,101],[0,2,4,5]] ?_)
   iterate 5 refine op3 ?_
   refine qA ?_
   exact⟨(k,l++[⟨A.1,A.1⟩],wL (decide (A.1<A.1)) B),⟨by rw[h1,hT'],by simp only;omega,gr,by simp only[List.length_append,List.length_singleton];omega,e5⟩,by simp,qE (by simp[spC]),rfl,by simp[spC],by simp[spC]⟩
  ·
   rw[qKO (Classical.not_not.1 hs6)]at c2
   refine rgn [.int .i32 a0,.int .i32 a1] [[],[],[],[],[0,2,4,5,31],[],[],[],[],[0,2,4,5,33,36],[],[],[],[0,2,4,5,33,40],[],[],[],[0,2,4,5,42,44],[],[],[],[0,2,4,5,42,48]] ?_
   iterate 22 first|refine op3 ?_ (hv:=by first|exact True.intro|(intros;exact⟨by omega,hh0 (by omega)⟩)|(intros;exact⟨by omega,hh1 (by omega)⟩)|(intros;exact⟨⟨by omega,by assumption⟩,hh1 (by omega)⟩);done|omega|simp)|refine op4 ?_ (hv:=by first|exact True.intro|(first|(intros;exact⟨by omega,hh0 (by omega)⟩)|(intros;exact⟨by omega,hh1 (by omega)⟩)|(intros;exact⟨⟨by omega,by assumption⟩,hh1 (by omega)⟩);done)|omega|simp)
   refine qJ ?_
   refine qB.stepYIf [0,2,4,5,42,49] 42 (b:=decide (1<(t.left.length:Int)) && decide (a0=92)) rfl rfl (by simp) (fun hb=>zVJ rfl c2 (by simp;simpa using hb)) (by conv=>lhs;simp) ?_
   refine qB.stepYIf [0,2,4,5,42,50] 42 (b:=decide (1<(t.left.length:Int)) && decide (a0=92)) rfl rfl (by simp) (fun hb=>qVM tok false rfl rfl (by conv=>lhs;simp) (by simpa using hb) rfl) (by conv=>lhs;simp) ?_
   refine qB.run [[0,2,4,5,51]] ?_
   refine op3 ?_ (hv:=by first|exact True.intro|(intros;exact⟨by omega,hh0 (by omega)⟩)|(intros;exact⟨by omega,hh1 (by omega)⟩)|(intros;exact⟨⟨by omega,by assumption⟩,hh1 (by omega)⟩);done|omega|simp)
   refine qA (cnd ?_ ?_)
   ·intro h51
    try simp at h51
   intro h51
   try simp at h51
   have hT':yO (k+1) l t=yO k (l++[(kY t).1]) (kY t).2:=by rw[hT,if_neg (by rintro⟨q1,q2,q3⟩;first|exact hs6 q3|(simp[q2]at h51;omega)|omega)]
   have c4:=qGV (G:=G) t h3
   have r4:=(Gr.single t).runes h3
   have c5:=qFN (G:=G) [45] (zD t).2 r4 (by decide) (by decide)
   have c6:=qGV (G:=G) (qU [45] (zD t).2) ((Gr.next [45] _).runes r4)
   have hlv:=qTE h20
   have gr:=(Gr.span t).runes h3
   have e5:(kY t).2.ss.length<=50000:=by rw[zGV];exact h5
   have hsp:kY t=(let c:Int × RG:=if wB [45] (zD t).2=true then zD (qU [45] (zD t).2) else((zD t).1,qU [45] (zD t).2);(⟨(zD t).1,c.1⟩,wL (decide (c.1<(zD t).1)) c.2)):=rfl
   clear hT h51 c2 hh0 hh1
   generalize kY t=S at *
   generalize zD t=A at *
   generalize wB [45] A.2=tk at *
   generalize qU [45] A.2=B at *
   generalize zD B=C at *
   refine AW.skip (rgn [] [[]] ?_)
   refine op3 ?_
   refine qJ ?_
   refine qB.stepK [0,2,4,5,70] (zF rfl c4 (by simp)) (by conv=>lhs;simp) rfl ?_
   refine qB.run [[],[],[0,2,4,5,8]] ?_
   iterate 3 refine op3 ?_
   refine qA (rgn [] [[],[],[],[0,2,4,5,8]] ?_)
   iterate 4 refine op3 ?_
   refine qA (AW.seq (rgn [] [[]] ?_))
   refine op3 ?_
   refine qJ ?_
   refine qB.stepK [0,2,4,5,8,77] (zF rfl c5 (by simp)) (by conv=>lhs;simp) rfl ?_
   refine qB.run [[],[],[],[0,2,4,5,8,79],[0,2,4,5,8,10]] ?_
   iterate 5 refine op3 ?_
   refine qA (rgn [] [[0,2,4,5,8,80]] ?_)
   refine op3 ?_
   refine qA (cnd ?_ ?_)
   ·intro h80
    try simp at h80
    simp only[h80, ↓reduceIte]at hsp
    subst hsp
    simp only at hT' hlv gr e5
    refine rgz [] [[]] ?_
    refine op3 ?_
    refine qJ ?_
    refine qB.stepK [0,2,4,5,8,82] (zF rfl c6 (by simp)) (by conv=>lhs;simp) rfl ?_
    refine qB.run [[],[0,2,4,5,8]] ?_
    iterate 2 refine op3 ?_
    refine qA (rgn [] [[],[],[],[],[],[0,2,4,5,8,84,89],[],[],[],[],[0,2,4,5,8,84,89,94],[],[],[0,2,4,5,8,95,97],[0,2,4,5,8]] ?_)
    iterate 6 refine op3 ?_
    iterate 5 refine op4 ?_
    iterate 4 refine op3 ?_
    refine qA (rgz [.agg [.int .i32 A.1,.int .i32 C.1]] [[],[],[],[0,2,4,5,101],[0,2,4,5]] ?_)
    iterate 5 refine op3 ?_
    refine qA ?_
    exact⟨(k,l++[⟨A.1,C.1⟩],wL (decide (C.1<A.1)) C.2),⟨by rw[h1,hT'],by simp only;omega,gr,by simp only[List.length_append,List.length_singleton];omega,e5⟩,by simp,qE (by simp[spC]),rfl,by simp[spC],by simp[spC]⟩
   intro h80
   try simp at h80
   simp only[h80,Bool.false_eq_true, ↓reduceIte]at hsp
   subst hsp
   simp only at hT' hlv gr e5
   refine AW.skip (rgn [] [[],[],[],[],[],[0,2,4,5,8,84,89],[],[],[],[],[0,2,4,5,8,84,89,94],[],[],[0,2,4,5,8,95,97],[0,2,4,5,8]] ?_)
   iterate 6 refine op3 ?_
   iterate 5 refine op4 ?_
   iterate 4 refine op3 ?_
   refine qA (rgz [.agg [.int .i32 A.1,.int .i32 A.1]] [[],[],[],[0,2,4,5,101],[0,2,4,5]] ?_)
   iterate 5 refine op3 ?_
   refine qA ?_
   exact⟨(k,l++[⟨A.1,A.1⟩],wL (decide (A.1<A.1)) B),⟨by rw[h1,hT'],by simp only;omega,gr,by simp only[List.length_append,List.length_singleton];omega,e5⟩,by simp,qE (by simp[spC]),rfl,by simp[spC],by simp[spC]⟩
 intro h20
 try simp at h20
 have hE:yO N [] s0=(l,t):=by rw[h1,zKY h20]
 rw[hE]
 refine AW.exit ?_
 simp
 refine rgn [] [[],[],[],[],[],[0,2,4,5,102,107],[],[],[],[0,2,4,5,102,111],[],[],[0,2,4,5]] ?_
 iterate 6 refine op3 ?_
 iterate 3 refine op4 ?_
 iterate 4 refine op3 ?_
 refine qA (rgn [] [[],[],[],[2,4,5,117],[]] ?_)
 iterate 5 refine op3 ?_
 refine qJ ?_
 refine qB.freeze 990 (by conv=>lhs;simp) ?_
 refine qB.freezeV 905 (by conv=>lhs;simp) ?_
 refine qB.freezeV 904 (by conv=>lhs;simp) ?_
 refine qB.stepK [2,119] (zF rfl (qZT t.ss (.items l ng) 256 [.sl 2 (l.map spC)] [.bool ng] rfl h5) (by simp)) (by conv=>lhs;simp) rfl ?_
 refine qB.run [[2]] ?_
 refine op3 ?_
 refine qA ?_
 exact AW.ret qZ
structure InR (c:Int) (s:RG):Prop where
 runes:qCB s.left
 few:(W s.ss:Int)+8 * s.left.length+c<=40000
 d0:0<=s.deep
 d1:s.deep+s.left.length<=5000
 ln:s.left.length<=1000
theorem InR.le {c k:Int} (c':Int) {s s':RG} (h:InR c s) (g:Gr k s s') (hc:k+c'<=c):InR c' s' :=
 ⟨g.runes h.runes,by have:=h.few;have:=g.few;omega,by have:=h.d0;have:=g.d0;omega,by have:=h.d1;have:=g.d1;omega,by have:=h.ln;have:=g.left;omega⟩
theorem InR.w {c:Int} {s:RG} (h:InR c s) (hc : -1000<=c):W s.ss<=41000/\s.ss.length<=41000:=by
 have:=h.few;have:=zVV s.ss;omega
structure RegAll (G:qR) (n:Nat):Prop where
 alt:∀ s,InR 1 s->4 * s.left.length+3<=n->AX Tryz.prog G 188 [.ptr 2 0] [(2,.vars 209 (rsC s)),(5,.vars 207 [.ms 6]),(6,.mach 215 3 (s.ss.map XS.ms))] (.agg [.p (.int .i64 (qAG n s).1.1),.p (.int .i64 (qAG n s).1.2)]) [2,5] [(2,.vars 209 (rsC ((qAG n s).2))),(5,.vars 207 [.ms 6]),(6,.mach 215 3 (((qAG n s).2).ss.map XS.ms))]
 seq:∀ s,InR 1 s->4 * s.left.length+2<=n->AX Tryz.prog G 216 [.ptr 2 0] [(2,.vars 209 (rsC s)),(5,.vars 207 [.ms 6]),(6,.mach 215 3 (s.ss.map XS.ms))] (.agg [.p (.int .i64 (xB n s).1.1),.p (.int .i64 (xB n s).1.2)]) [2,5] [(2,.vars 209 (rsC ((xB n s).2))),(5,.vars 207 [.ms 6]),(6,.mach 215 3 (((xB n s).2).ss.map XS.ms))]
 atom:∀ s,InR 0 s->s.left≠[]->4 * s.left.length<=n->AX Tryz.prog G 236 [.ptr 2 0] [(2,.vars 209 (rsC s)),(5,.vars 207 [.ms 6]),(6,.mach 215 3 (s.ss.map XS.ms))] (.agg [.p (.int .i64 (qBO n s).1.1),.p (.int .i64 (qBO n s).1.2)]) [2,5] [(2,.vars 209 (rsC ((qBO n s).2))),(5,.vars 207 [.ms 6]),(6,.mach 215 3 (((qBO n s).2).ss.map XS.ms))]
theorem zUX (ss:List XS) (l:List Nat) (hl:ss.length<=100000):AX Tryz.prog G 218 [.ptr 5 0,.ms 934] [(5,.vars 207 [.ms 6]),(6,.mach 215 3 (ss.map XS.ms)),(934,.row 3 1 (bN l))] (.p (.int .i64 ss.length)) [5] [(5,.vars 207 [.ms 996]),(996,.mach 215 3 ((ss++[XS.mk .no .no l]).map XS.ms))]:=by
 refine AX.introU tok 2000 Tryz.func218 (by kernel_rfl) rfl rfl ?_
 simp only[Tryz.f218,qG,List.map_cons,List.map_nil]
 refine rgn [] [[0,1]] ?_
 refine op3 ?_
 refine qA (rgn [] [[],[],[],[],[],[0,5,9,10],[]] ?_)
 iterate 7 refine op3 ?_
 refine qJ ?_
 refine qB.stepK [0,5,9,12] (qFF tok rfl rfl rfl rfl rfl rfl (by conv=>lhs;simp) trivial (by conv=>lhs;simp) (zVU l) 2007 (by conv=>lhs;simp) (by conv=>lhs;simp)) (by conv=>lhs;simp) rfl ?_
 refine qB.stepK [0,5,13] (qDM tok rfl (by conv=>lhs;simp) trivial (by conv=>lhs;simp) trivial (by decide) rfl rfl rfl rfl rfl rfl (by decide) (by conv=>lhs;simp) (by conv=>lhs;simp) (by simp) (by simp;omega) 996 (by conv=>lhs;simp) (by conv=>lhs;simp)) (by conv=>lhs;simp) rfl ?_
 refine qB.run [[],[],[0]] ?_
 iterate 3 refine op3 ?_
 refine qA (rgn [] [[],[],[],[19]] ?_)
 iterate 4 refine op3 ?_
 refine qJ ?_
 refine qB.stepK [20] (qKW tok rfl rfl (by conv=>lhs;simp) trivial (by conv=>lhs;simp)) (by conv=>lhs;simp) rfl ?_
 refine qB.run [[],[4]] ?_
 iterate 2 refine op3 ?_
 refine qA ?_
 exact AW.ret (qZ (k:=by simp) (b:=by simp[XS.ms,Tk.enc,Pl.enc]))
theorem zLX (n:Nat) (s:RG) (ih:RegAll G n) (hi:InR 0 s) (hne:s.left≠[]) (hf:4 * s.left.length<=n+1):AX Tryz.prog G 236 [.ptr 2 0] [(2,.vars 209 (rsC s)),(5,.vars 207 [.ms 6]),(6,.mach 215 3 (s.ss.map XS.ms))] (.agg [.p (.int .i64 (qBO (n+1) s).1.1),.p (.int .i64 (qBO (n+1) s).1.2)]) [2,5] [(2,.vars 209 (rsC ((qBO (n+1) s).2))),(5,.vars 207 [.ms 6]),(6,.mach 215 3 (((qBO (n+1) s).2).ss.map XS.ms))]:=by
 refine AX.introU tok 900 Tryz.func236 (by kernel_rfl) rfl rfl ?_
 simp only[Tryz.f236,qG,List.map_cons,List.map_nil]
 have hpos:=List.length_pos_iff.2 hne
 have hix:=qQT (l:=s.left) hpos
 have gd:=Gr.drop1 hne
 have hdl:(wS 1 s).left.length+1=s.left.length:=by simp;omega
 have hit:=hi.le 8 gd (by omega)
 have hc:=hi.runes (s.left.headD 0) (List.mem_of_getElem? hix)
 have hu:InR 1 (wL (decide (6<s.deep+1)) (kO 1 (wS 1 s))):=⟨hit.runes,by have:=hit.few;simp only[zVR,zUE,or_left,qHF];omega,by have:=hit.d0;simp only[qWL,qMB];omega,by have:=hi.d1;simp only[qWL,qMB,or_left,qHF,qUW];omega,hit.ln⟩
 have hul:(wL (decide (6<s.deep+1)) (kO 1 (wS 1 s))).left.length+1=s.left.length:=hdl
 have hA:qBO (n+1) s=if s.left.headD 0=40 then(if(wL (decide (6<s.deep+1)) (kO 1 (wS 1 s))).bad=true then((0,0),wL (decide (6<s.deep+1)) (kO 1 (wS 1 s))) else((qAG n (wL (decide (6<s.deep+1)) (kO 1 (wS 1 s)))).1,kO (-1) (wL (!wB [41] (qAG n (wL (decide (6<s.deep+1)) (kO 1 (wS 1 s)))).2) (qU [41] (qAG n (wL (decide (6<s.deep+1)) (kO 1 (wS 1 s)))).2)))) else if s.left.headD 0=91 then qBF (wS 1 s) else if s.left.headD 0=46 then(wX s.ss,wK (vE s.ss .any) (wS 1 s)) else if s.left.headD 0=94 then(wX s.ss,wK (uO s.ss .beg) (wS 1 s)) else if s.left.headD 0=36 then(wX s.ss,wK (uO s.ss .fin) (wS 1 s)) else if s.left.headD 0=92 then yW (wS 1 s) else qJS (s.left.headD 0) (wL (qDA [41,93,123,125,42,43,63,124] (s.left.headD 0)) (wS 1 s)):=rfl
 generalize s.left.headD 0=c at *
 have hw:=hit.w (by omega)
 have hsl:s.ss.length<=50000:=by have:=hw.2;simp only[zUC]at this;omega
 have hd0:=hi.d0
 have hd1:=hi.d1
 refine rgn [] [[]] ?_
 refine op3 ?_
 refine qA (rgn [.int .i32 c] [[],[],[],[],[0,2,11],[],[0,2,3]] ?_)
 iterate 7 refine op3 ?_ (hv:=by first|exact True.intro|(simp[hix];done)|(simp[hix];omega);done|omega|simp)
 refine qA (rgn [] [[],[],[],[],[],[0,2,3,13,18],[],[],[0,2,3]] ?_)
 iterate 9 refine op3 ?_
 refine qA (AW.seq (rgn [] [[]] ?_))
 refine op3 ?_
 refine qA (AW.block (rgn [] [[],[0,2,3,21,22]] ?_))
 iterate 2 refine op3 ?_
 refine qA (cnd ?_ ?_)
 ·intro h22
  try simp at h22
  rw[if_pos h22]at hA
  refine rgn [] [[],[],[],[],[],[0,2,28,29],[],[0,2]] ?_
  iterate 8 refine op3 ?_
  refine qA (rgn [.nilp] [[],[],[],[],[],[0,2,31,36],[],[],[],[],[0,2,31,36,41],[],[],[0,2,42,44],[0,2]] ?_)
  iterate 6 refine op3 ?_
  iterate 5 refine op4 ?_
  iterate 4 refine op3 ?_
  refine qA (AW.seq (rgn [] [[],[],[],[0,2,48]] ?_))
  iterate 4 refine op3 ?_
  refine qA (cnd ?_ ?_)
  ·intro h48
   try simp at h48
   rw[hA,if_pos (by simpa using h48)]
   refine rgn [] [[],[2]] ?_
   iterate 2 refine op3 ?_
   refine qA ?_
   exact AW.ret qZ
  intro h48
  try simp at h48
  rw[if_neg (by simpa using h48)]at hA
  rw[hA]
  clear hA
  have g1:=(qFM n).alt (wL (decide (6<s.deep+1)) (kO 1 (wS 1 s)))
  have c1:=ih.alt _ hu (by omega)
  have hq:=hu.le 0 g1.1 (by omega)
  have hq0:=g1.1.d0
  simp only[qWL,qMB,qUW]at hq0
  generalize qAG n (wL (decide (6<s.deep+1)) (kO 1 (wS 1 s)))=q at *
  have c2:=qFN (G:=G) [41] q.2 hq.runes (by decide) (by decide)
  have hz:=hq.le 0 (Gr.next [41] q.2) (by omega)
  have hz0:=(Gr.next [41] q.2).d0
  generalize qU [41] q.2=z at *
  generalize wB [41] q.2=ok at *
  have hz1:=hz.d1
  refine AW.skip (rgn [] [[]] ?_)
  refine op3 ?_
  refine qJ ?_
  refine qB.stepK [0,2,51] (zF rfl c1 (by simp)) (by conv=>lhs;simp) rfl ?_
  refine qB.run [[],[0,2,4]] ?_
  iterate 2 refine op3 ?_
  refine qA (rgn [] [[]] ?_)
  refine op3 ?_
  refine qJ ?_
  refine qB.stepK [0,2,4,54] (zF rfl c2 (by simp)) (by conv=>lhs;simp) rfl ?_
  refine qB.run [[],[],[],[0,2,4,56],[0,2,4,6]] ?_
  iterate 5 refine op3 ?_
  refine qA (rgn [] [[],[],[],[],[],[0,2,4,6,57,62],[],[],[0,2,4,57,65],[],[],[0,2,4]] ?_)
  iterate 6 refine op3 ?_
  iterate 2 refine op4 ?_
  iterate 4 refine op3 ?_
  refine qA (rgn [] [[],[],[],[],[2,4,68,72],[],[],[2,4]] ?_)
  iterate 8 refine op3 ?_
  refine qA (rgn [] [[],[2]] ?_)
  iterate 2 refine op3 ?_
  refine qA ?_
  exact AW.ret (qZ (k:=by simp) (b:=by simp;omega))
 intro h22
 try simp at h22
 rw[if_neg h22]at hA
 refine rgn [] [[],[0,2,3,21,76]] ?_
 iterate 2 refine op3 ?_
 refine qA (cnd ?_ ?_)
 ·intro h76
  try simp at h76
  rw[if_pos h76]at hA
  rw[hA]
  have c1:=zOU (G:=G) (wS 1 s) hit.runes (by simpa using hsl) hit.ln
  refine rgn [] [[]] ?_
  refine op3 ?_
  refine qJ ?_
  refine qB.stepK [2,79] (zF rfl c1 (by simp)) (by conv=>lhs;simp) rfl ?_
  refine qB.run [[2]] ?_
  refine op3 ?_
  refine qA ?_
  exact AW.ret qZ
 intro h76
 try simp at h76
 rw[if_neg h76]at hA
 refine rgn [] [[],[0,2,3,21,80]] ?_
 iterate 2 refine op3 ?_
 refine qA (cnd ?_ ?_)
 ·intro h80
  try simp at h80
  rw[if_pos h80]at hA
  rw[hA]
  have c1:=zNL (G:=G) s.ss .any 246 rfl hsl
  refine rgn [] [[],[],[],[2,85]] ?_
  iterate 4 refine op3 ?_
  refine qJ ?_
  refine qB.stepK [2,86] (zF rfl c1 (by simp)) (by conv=>lhs;simp) rfl ?_
  refine qB.run [[2]] ?_
  refine op3 ?_
  refine qA ?_
  exact AW.ret qZ
 intro h80
 try simp at h80
 rw[if_neg h80]at hA
 refine rgn [] [[],[0,2,3,21,87]] ?_
 iterate 2 refine op3 ?_
 refine qA (cnd ?_ ?_)
 ·intro h87
  try simp at h87
  rw[if_pos h87]at hA
  rw[hA]
  have c1:=qTP (G:=G) s.ss .beg 248 rfl hsl
  refine rgn [] [[],[],[],[2,92]] ?_
  iterate 4 refine op3 ?_
  refine qJ ?_
  refine qB.stepK [2,93] (zF rfl c1 (by simp)) (by conv=>lhs;simp) rfl ?_
  refine qB.run [[2]] ?_
  refine op3 ?_
  refine qA ?_
  exact AW.ret qZ
 intro h87
 try simp at h87
 rw[if_neg h87]at hA
 refine rgn [] [[],[0,2,3,21,94]] ?_
 iterate 2 refine op3 ?_
 refine qA (cnd ?_ ?_)
 ·intro h94
  try simp at h94
  rw[if_pos h94]at hA
  rw[hA]
  have c1:=qTP (G:=G) s.ss .fin 249 rfl hsl
  refine rgn [] [[],[],[],[2,99]] ?_
  iterate 4 refine op3 ?_
  refine qJ ?_
  refine qB.stepK [2,100] (zF rfl c1 (by simp)) (by conv=>lhs;simp) rfl ?_
  refine qB.run [[2]] ?_
  refine op3 ?_
  refine qA ?_
  exact AW.ret qZ
 intro h94
 try simp at h94
 rw[if_neg h94]at hA
 refine rgn [] [[],[0,2,3,101]] ?_
 iterate 2 refine op3 ?_
 refine qA (cnd ?_ ?_)
 ·intro h101
  try simp at h101
  rw[if_pos h101]at hA
  rw[hA]
  have c1:=zDU (G:=G) (wS 1 s) hsl
  refine rgn [] [[]] ?_
  refine op3 ?_
  refine qJ ?_
  refine qB.stepK [2,104] (zF rfl c1 (by simp)) (by conv=>lhs;simp) rfl ?_
  refine qB.run [[2]] ?_
  refine op3 ?_
  refine qA ?_
  exact AW.ret qZ
 intro h101
 try simp at h101
 rw[if_neg h101]at hA
 rw[hA]
 have hC:=qEE (G:=G) [41,93,123,125,42,43,63,124] c hc.1 hc.2 (by decide) (by decide)
 have c1:=zNY (G:=G) c (wL (qDA [41,93,123,125,42,43,63,124] c) (wS 1 s)) hsl
 refine AW.skip (rgn [.nilp,.bool (qDA [41,93,123,125,42,43,63,124] c)] [[],[],[],[],[],[0,2,3,105,110],[],[],[],[0,2,3,113,114],[],[0,2,3]] ?_)
 iterate 6 refine op3 ?_ (hv:=by first|exact True.intro|exact hC|exact fun _=>hC|exact fun h=>⟨h,hC⟩|(intros;exact⟨by assumption,hC⟩);done|omega|simp)
 iterate 2 refine op4 ?_ (hv:=by first|exact True.intro|exact hC|exact fun _=>hC|exact fun h=>⟨h,hC⟩|(intros;exact⟨by assumption,hC⟩);done|omega|simp)
 iterate 4 refine op3 ?_ (hv:=by first|exact True.intro|exact hC|exact fun _=>hC|exact fun h=>⟨h,hC⟩|(intros;exact⟨by assumption,hC⟩);done|omega|simp)
 refine qA (rgn [] [[],[]] ?_)
 iterate 2 refine op3 ?_
 refine qJ ?_
 refine qB.stepK [2,118] (zF rfl c1 (by simp)) (by conv=>lhs;simp) rfl ?_
 refine qB.run [[2]] ?_
 refine op3 ?_
 refine qA ?_
 exact AW.ret qZ
theorem zQW (n:Nat) (s:RG) (ih:∀ m,m<=n->RegAll G m) (hi:InR 1 s) (hf:4 * s.left.length+3<=n+1):AX Tryz.prog G 188 [.ptr 2 0] [(2,.vars 209 (rsC s)),(5,.vars 207 [.ms 6]),(6,.mach 215 3 (s.ss.map XS.ms))] (.agg [.p (.int .i64 (qAG (n+1) s).1.1),.p (.int .i64 (qAG (n+1) s).1.2)]) [2,5] [(2,.vars 209 (rsC ((qAG (n+1) s).2))),(5,.vars 207 [.ms 6]),(6,.mach 215 3 (((qAG (n+1) s).2).ss.map XS.ms))]:=by
 refine AX.introU tok 900 Tryz.func188 (by kernel_rfl) rfl rfl ?_
 simp only[Tryz.f188,qG,List.map_cons,List.map_nil]
 have hA:qAG (n+1) s=qKQ n (xB n s).1 (xB n s).2:=rfl
 rw[hA]
 clear hA
 have g1:=(qFM n).seq s
 have c1:=(ih n (Nat.le_refl n)).seq s hi (by omega)
 have hq:=hi.le 0 g1.1 (by omega)
 have hql:=g1.1.left
 have hqp:=g1.2
 clear g1
 generalize xB n s=q0 at *
 refine rgn [] [[]] ?_
 refine op3 ?_
 refine qA (rgn [] [[]] ?_)
 refine op3 ?_
 refine qJ ?_
 refine qB.stepK [0,2,10] (zF rfl c1 (by simp)) (by conv=>lhs;simp) rfl ?_
 refine qB.run [[],[0,2,3]] ?_
 iterate 2 refine op3 ?_
 refine qA (AW.block ?_)
 refine AW.loop (α:=Nat × Pt × RG) (fun a=>qKQ n q0.1 q0.2=qKQ a.1 a.2.1 a.2.2/\a.1<=n/\4 * a.2.2.left.length+2<=a.1/\InR 0 a.2.2/\uL a.2.2.ss a.2.1) (fun a=>⟨zA 55 [(0,.ptr 2 0),(2,.ptr 902 0),(3,.ptr 903 0)],[2,5],[(2,.vars 209 (rsC a.2.2)),(5,.vars 207 [.ms 6]),(6,.mach 215 3 (a.2.2.ss.map XS.ms)),(902,.vars 151 [.p (.int .i64 0),.p (.int .i64 0)]),(903,.vars 151 [.p (.int .i64 a.2.1.1),.p (.int .i64 a.2.1.2)])],900⟩) (fun a=>a.1) ((n,q0.1,q0.2)) ⟨rfl,Nat.le_refl _,by simp only;omega,hq,hqp⟩ ⟨qE (by simp),rfl,by simp,by simp⟩ ?_
 rintro⟨m,p,t⟩ ⟨h1,h2,h3,h4,h5⟩
 simp only at h1 h2 h3 h4 h5
 obtain⟨k,rfl⟩:∃ k,m=k+1:=⟨m-1,by omega⟩
 have c2:=qFN (G:=G) [124] t h4.runes (by decide) (by decide)
 refine AW.block (AW.seq (rgn [] [[]] ?_))
 refine op3 ?_
 refine qJ ?_
 refine qB.stepK [0,2,3,13] (zF rfl c2 (by simp)) (by conv=>lhs;simp) rfl ?_
 refine qB.run [[],[],[],[0,2,3,15],[0,2,3,5]] ?_
 iterate 5 refine op3 ?_
 refine qA (rgn [] [[],[0,2,3,17]] ?_)
 iterate 2 refine op3 ?_
 refine qA (cnd ?_ ?_)
 ·intro h17
  try simp at h17
  have hE:qKQ n q0.1 q0.2=(p,qU [124] t):=by
   rw[h1];conv=>lhs;unfold qKQ
   rw[if_neg (by simp[h17])]
  rw[hE]
  refine rgn [] [[],[2]] ?_
  iterate 2 refine op3 ?_
  refine qA ?_
  exact AW.ret qZ
 intro h17
 try simp at h17
 have hE:qKQ (k+1) p t=(let q:=xB k (qU [124] t);qKQ k (wX q.2.ss) (wK (qMH q.2.ss p q.1) q.2)):=by
  conv=>lhs;unfold qKQ
  rw[if_pos h17]
 have hn1:=h4.le 8 (Gr.next1 h17) (by omega)
 have hnl:=qQD h17
 have hp1:=h5.le (Gr.next1 h17).len
 clear c2
 generalize qU [124] t=u at *
 have g1:=(qFM k).seq u
 have c1:=(ih k (by omega)).seq u (hn1.le 1 (Gr.refl u) (by omega)) (by omega)
 have hv:=hn1.le 7 g1.1 (by omega)
 have hvl:=g1.1.left
 have hp2:=hp1.le g1.1.len
 have hq2:=g1.2
 clear g1
 simp only at hE
 generalize xB k u=q at *
 have hw:=hv.w (by omega)
 have hg7:InR 1 (wK (qMH q.2.ss p q.1) q.2):=hv.le 1 (k:=6) (Gr.put (by simp) (by have:=zVW q.2.ss p q.1;omega) fun h=>h.alt hp2 hq2) (by omega)
 have hpn:uL (qMH q.2.ss p q.1) (wX q.2.ss):=qDW _ (by simp)
 have hX:qMH q.2.ss p q.1=toX (toX (q.2.ss++[noX]++[XS.mk .no .no [p.1,q.1.1]]) p.2 q.2.ss.length) q.1.2 q.2.ss.length:=by unfold qMH;rw[List.append_assoc];rfl
 have a1:=qER (G:=G) q.2.ss (by omega)
 have a2:=zUX (G:=G) (q.2.ss++[noX]) [p.1,q.1.1] (by simp;omega)
 have l1:(q.2.ss++[noX]).length=q.2.ss.length+1:=by simp
 have l2:(q.2.ss++[noX]++[XS.mk .no .no [p.1,q.1.1]]).length=q.2.ss.length+2:=by simp
 have w2:W (q.2.ss++[noX]++[XS.mk .no .no [p.1,q.1.1]])<=W q.2.ss+4:=by simp[qRS,W] <;> omega
 rw[hX]at hE hg7 hpn
 clear hX
 generalize q.2.ss++[noX]=S1 at *
 rw[l1]at a2
 generalize S1++[XS.mk .no .no [p.1,q.1.1]]=A at *
 have hp21:=hp2.2
 have hq21:=hq2.2
 obtain⟨x,hx,hxn⟩:=qFW (ss:=A) (i:=p.2) (by omega)
 have a3:=qMP (G:=G) A p.2 q.2.ss.length x hx (by omega) (by omega)
 have w3:=qNZ A p.2 q.2.ss.length
 have l3:=qDN A p.2 q.2.ss.length
 generalize toX A p.2 q.2.ss.length=B at *
 obtain⟨y,hy,hyn⟩:=qFW (ss:=B) (i:=q.1.2) (by omega)
 have a4:=qMP (G:=G) B q.1.2 q.2.ss.length y hy (by omega) (by omega)
 have l4:=qDN B q.1.2 q.2.ss.length
 generalize toX B q.1.2 q.2.ss.length=C1 at *
 refine AW.skip (rgn [] [[]] ?_)
 refine op3 ?_
 refine qJ ?_
 refine qB.stepK [0,2,3,20] (zF rfl c1 (by simp)) (by conv=>lhs;simp) rfl ?_
 refine qB.run [[],[0,2,3,6]] ?_
 iterate 2 refine op3 ?_
 refine qA (rgn [] [[],[],[],[]] ?_)
 iterate 4 refine op3 ?_
 refine qJ ?_
 refine qB.stepK [0,2,3,6,25] (zF rfl a1 (by simp)) (by conv=>lhs;simp) rfl ?_
 refine qB.run [[0,2,3,6,7]] ?_
 refine op3 ?_
 refine qA ?_
 refine AW.seqDrawR mixed 10 [[0],[26],[27],[28],[3],[30],[6],[32],[31,33],[29,34]] [] (by kernel_rfl) ?_
 iterate 8 refine qS.o0 tok (k := ?_)
 refine qS.o1 tok (orc:=[.int .i64 p.1,.int .i64 q.1.1]) (k := ?_)
 refine qS.call [996] a2 rfl rfl (by simp) (by simp) (by simp) (by simp) (by simp) (by first|(simp;done)|(simp;omega)) (by first|(simp;done)|(simp;omega)) (by kernel_rfl) (by conv=>lhs;simp) ?_
 refine qS.nil (by kernel_rfl) ⟨by kernel_rfl, ?_⟩
 refine qB.run [[0,2,3,6,7,8]] ?_
 refine op3 ?_
 refine qA ?_
 refine AW.keepE [0,2,3,6,7,8] (by conv=>lhs;simp) ?_
 refine AW.renE 996 6 (by simp) (by conv=>lhs;simp) ?_
 refine AW.seqDrawR mixed 8 [[0],[36],[37],[38],[3],[40],[7],[39,41,42]] [] (by kernel_rfl) ?_
 iterate 7 refine qS.o0 tok (k := ?_)
 refine qS.call [] a3 rfl rfl (by simp) (by simp) (by simp) (by simp) (by simp) (by first|(simp;done)|(simp;omega)) (by first|(simp;done)|(simp;omega)) (by kernel_rfl) (by conv=>lhs;simp) ?_
 refine qS.nil (by kernel_rfl) ⟨by kernel_rfl, ?_⟩
 refine qB.nil ?_
 refine AW.seqDrawR mixed 8 [[0],[44],[45],[46],[6],[48],[7],[47,49,50]] [] (by kernel_rfl) ?_
 iterate 7 refine qS.o0 tok (k := ?_)
 refine qS.call [] a4 rfl rfl (by simp) (by simp) (by simp) (by simp) (by simp) (by first|(simp;done)|(simp;omega)) (by first|(simp;done)|(simp;omega)) (by kernel_rfl) (by conv=>lhs;simp) ?_
 refine qS.nil (by kernel_rfl) ⟨by kernel_rfl, ?_⟩
 refine qB.nil ?_
 refine rgz [] [[],[],[0,2,3,54],[0,2,3]] ?_
 iterate 4 refine op3 ?_
 refine qA ?_
 exact⟨(k,wX q.2.ss,wK C1 q.2),⟨by rw[h1,hE],by simp only;omega,by simp only[qJN];omega,hg7.le 0 (Gr.refl _) (by omega),hpn⟩,by simp,qE (by simp[wX]),rfl,by simp[wX],by simp[wX]⟩
theorem zQS (n:Nat) (s:RG) (h:s.left≠[]):(qBO n s).2.left.length+1<=s.left.length:=by
 have hl:(wS 1 s).left.length+1=s.left.length:=by have:=List.length_pos_iff.2 h;simp;omega
 have key:∀ {k:Int} {u v:RG},Gr k u v->u.left=(wS 1 s).left->v.left.length+1<=s.left.length:=fun g e=>by have:=g.left;rw[e]at this;omega
 cases n with
 | zero=>simp only[qBO];omega
 | succ n =>
  simp only[qBO]
  split
  ·split
   ·simp only[or_left,qHF];omega
   have g:=((qFM n).alt (wL (decide (6<(wS 1 s).deep+1)) (kO 1 (wS 1 s)))).1.trans (Gr.next [41] _)
   have:=g.left
   simp only[or_left,qHF]at this ⊢
   omega
  split
  ·exact key (zBH _).1 rfl
  split
  ·exact key (Gr.refl _) rfl
  split
  ·exact key (Gr.refl _) rfl
  split
  ·exact key (Gr.refl _) rfl
  split
  ·exact key (qPL _).1 rfl
  exact key (zEE _ (wL _ (wS 1 s))).1 rfl
theorem zNI (n:Nat) (s:RG) (ih:∀ m,m<=n->RegAll G m) (hi:InR 1 s) (hf:4 * s.left.length+2<=n+1):AX Tryz.prog G 216 [.ptr 2 0] [(2,.vars 209 (rsC s)),(5,.vars 207 [.ms 6]),(6,.mach 215 3 (s.ss.map XS.ms))] (.agg [.p (.int .i64 (xB (n+1) s).1.1),.p (.int .i64 (xB (n+1) s).1.2)]) [2,5] [(2,.vars 209 (rsC ((xB (n+1) s).2))),(5,.vars 207 [.ms 6]),(6,.mach 215 3 (((xB (n+1) s).2).ss.map XS.ms))]:=by
 refine AX.introU tok 900 Tryz.func216 (by kernel_rfl) rfl rfl ?_
 simp only[Tryz.f216,qG,List.map_cons,List.map_nil]
 have hA:xB (n+1) s=qHL n (s.ss.length,s.ss.length) (wK (s.ss++[noX]) s):=rfl
 rw[hA]
 clear hA
 have hw0:=hi.w (by omega)
 have c1:=qER (G:=G) s.ss (by omega)
 have hq:InR 0 (wK (s.ss++[noX]) s):=hi.le 0 (k:=1) (Gr.put (by simp) (by rw[zIN];omega) fun h=>h.new) (by omega)
 have hqp:uL (wK (s.ss++[noX]) s).ss (s.ss.length,s.ss.length):=⟨by simp,by simp⟩
 refine rgn [] [[]] ?_
 refine op3 ?_
 refine qA (rgn [] [[],[],[],[]] ?_)
 iterate 4 refine op3 ?_
 refine qJ ?_
 refine qB.stepK [0,2,12] (zF rfl c1 (by simp)) (by conv=>lhs;simp) rfl ?_
 refine qB.run [[0,2,3]] ?_
 refine op3 ?_
 refine qA (rgn [] [[],[],[],[],[0,2,4]] ?_)
 iterate 5 refine op3 ?_
 refine qA (AW.seq (AW.block ?_))
 refine AW.loop (α:=Nat × Pt × RG) (fun a=>qHL n (s.ss.length,s.ss.length) (wK (s.ss++[noX]) s)=qHL a.1 a.2.1 a.2.2/\a.1<=n/\4 * a.2.2.left.length+1<=a.1/\InR 0 a.2.2/\uL a.2.2.ss a.2.1) (fun a=>⟨zA 53 [(0,.ptr 2 0),(2,.ptr 902 0),(4,.ptr 904 0)],[2,5],[(2,.vars 209 (rsC a.2.2)),(5,.vars 207 [.ms 6]),(6,.mach 215 3 (a.2.2.ss.map XS.ms)),(902,.vars 151 [.p (.int .i64 0),.p (.int .i64 0)]),(904,.vars 151 [.p (.int .i64 a.2.1.1),.p (.int .i64 a.2.1.2)])],900⟩) (fun a=>a.1) ((n,(s.ss.length,s.ss.length),wK (s.ss++[noX]) s)) ⟨rfl,Nat.le_refl _,by simp only[qJN];omega,hq,hqp⟩ ⟨qE (by simp),rfl,by simp,by simp⟩ ?_
 rintro⟨m,p,t⟩ ⟨h1,h2,h3,h4,h5⟩
 simp only at h1 h2 h3 h4 h5
 obtain⟨k,rfl⟩:∃ k,m=k+1:=⟨m-1,by omega⟩
 have c1:=qJQ (G:=G) t
 have hpk:=qWK h4.runes
 have hC:=fun h0=>qEE (G:=G) [124,41] (zI t) h0 hpk (by decide) (by decide)
 refine AW.seq ?_
 by_cases hs3:0<=zI t
 ·
  refine rgn [.nilp,.bool (qDA [124,41] (zI t))] [[]] ?_
  refine op3 ?_ (hv:=by first|exact True.intro|exact fun _=>hC hs3|exact fun h=>⟨h,hC h⟩|exact fun h=>⟨hs3,hC hs3⟩;done|omega|simp)
  refine qJ ?_
  refine qB.stepK [0,2,4,17] (zF rfl c1 (by simp)) (by conv=>lhs;simp) rfl ?_
  refine qB.run [[],[],[]] ?_
  iterate 2 refine op3 ?_ (hv:=by first|exact True.intro|exact fun _=>hC hs3|exact fun h=>⟨h,hC h⟩|exact fun h=>⟨hs3,hC hs3⟩;done|omega|simp)
  refine op4 ?_ (hv:=by first|exact True.intro|exact fun _=>hC hs3|exact fun h=>⟨h,hC h⟩|exact fun h=>⟨hs3,hC hs3⟩;done|omega|simp)
  refine qJ ?_
  refine qB.stepKIf [0,2,4,19,21] 19 rfl rfl (zF rfl c1 (by simp;exact hs3)) (by simp[hs3]) (by conv=>lhs;simp) ?_
  refine qB.run [[],[],[0,2,4,24]] ?_
  iterate 2 refine op4 ?_ (hv:=by first|exact True.intro|exact fun _=>hC hs3|exact fun h=>⟨h,hC h⟩|exact fun h=>⟨hs3,hC hs3⟩;done|omega|simp)
  refine op3 ?_ (hv:=by first|exact True.intro|exact fun _=>hC hs3|exact fun h=>⟨h,hC h⟩|exact fun h=>⟨hs3,hC hs3⟩;done|omega|simp)
  refine qA (cnd ?_ ?_)
  ·intro h24
   try simp at h24
   have hnb:qDA [124,41] (zI t)=false:=by simpa[hs3]using h24
   have hE:qHL (k+1) p t=(let q:=qBO k t;let u:=qU [42,43,63] q.2;let K:Pt × RG:=if wB [42,43,63] q.2=true then(wX u.ss,wK (uY u.ss q.1 (zI q.2)) u) else(q.1,u);qHL k (p.1,K.1.2) (wK (toX K.2.ss p.2 K.1.1) K.2)):=by
    conv=>lhs;unfold qHL
    rw[if_pos ⟨hs3,hnb⟩]
   have hne:=(yJ hs3).1
   have g1:=(qFM k).atom t (by have:=h5.1;omega) hne
   have a1:=(ih k (by omega)).atom t h4 hne (by omega)
   have hv:=h4.le 4 g1.1 (by omega)
   have hvl:(qBO k t).2.left.length+1<=t.left.length:=zQS k t hne
   have hp1:=h5.le g1.1.len
   have hq1:=g1.2
   clear g1 c1 hC hpk
   simp only at hE
   generalize qBO k t=q at *
   have a2:=qFN (G:=G) [42,43,63] q.2 hv.runes (by decide) (by decide)
   have hpk2:=yJ (s:=q.2)
   refine AW.skip (AW.block (rgn [] [[]] ?_))
   refine op3 ?_
   refine qJ ?_
   refine qB.stepK [0,2,4,26] (zF rfl a1 (by simp)) (by conv=>lhs;simp) rfl ?_
   refine qB.run [[],[0,2,4,5]] ?_
   iterate 2 refine op3 ?_
   refine qA (AW.seq (rgn [] [[]] ?_))
   refine op3 ?_
   refine qJ ?_
   refine qB.stepK [0,2,4,5,29] (zF rfl a2 (by simp)) (by conv=>lhs;simp) rfl ?_
   refine qB.run [[],[],[],[],[0,2,4,5,6,7]] ?_
   iterate 5 refine op3 ?_
   refine qA (rgn [] [[0,2,4,5,6,32]] ?_)
   refine op3 ?_
   refine qA (cnd ?_ ?_)
   ·intro h32
    try simp at h32
    rw[if_pos h32]at hE
    have hn:=hv.le 12 (Gr.next1 h32) (by omega)
    have hnl:=qQD h32
    have hp2:=hp1.le (Gr.next1 h32).len
    have hq2:=hq1.le (Gr.next1 h32).len
    clear a2 h32
    generalize qU [42,43,63] q.2=u at *
    have hw:=hn.w (by omega)
    have a3:=AX.ren 6 996 (zOK (G:=G) u.ss q.1 (zI q.2) hq2 (by omega)) (by simp)
    simp only[V.ren,V.renL,qNV,Box.ren]at a3
    have hg:InR 6 (wK (uY u.ss q.1 (zI q.2)) u):=hn.le 6 (k:=6) (Gr.put (by simp) (by have:=zRG u.ss q.1 (zI q.2);omega) fun h=>h.many hq2 _) (by omega)
    have hlM:=zKR u.ss q.1 (zI q.2)
    generalize uY u.ss q.1 (zI q.2)=Mx at *
    have hw2:=hg.w (by omega)
    simp only[qPY]at hw2 hE
    have hp22:=hp2.2
    obtain⟨x,hx,hxn⟩:=qFW (ss:=Mx) (i:=p.2) (by omega)
    have a4:=qMP (G:=G) Mx p.2 (wX u.ss).1 x hx (by simp[wX];omega) (by omega)
    have hg4:InR 0 (wK (toX Mx p.2 (wX u.ss).1) u):=by
     have:=hg.le 0 (s':=wK (toX Mx p.2 (wX u.ss).1) (wK Mx u)) (k:=1) (Gr.put (by simp) (by have:=qNZ Mx p.2 (wX u.ss).1;simp only[qPY];omega) fun h=>h.to (by simp[wX];omega)) (by omega)
     exact this
    have hl4:=qDN Mx p.2 (wX u.ss).1
    generalize toX Mx p.2 (wX u.ss).1=C1 at *
    refine AW.drawR mixed 7 [[0],[33],[34],[35],[5],[6],[36,37,38]] [] (by kernel_rfl) ?_
    iterate 6 refine qS.o0 tok (k := ?_)
    refine qS.call [996] a3 rfl rfl (by simp) (by simp) (by simp) (by simp) (by simp) (by first|(simp;done)|(simp;omega)) (by first|(simp;done)|(simp;omega)) (by kernel_rfl) (by conv=>lhs;simp) ?_
    refine qS.nil (by kernel_rfl) ⟨by kernel_rfl, ?_⟩
    refine qB.run [[0,2,4,5]] ?_
    refine op3 ?_
    refine qA ?_
    refine AW.keepE [0,2,4,5] (by conv=>lhs;simp) ?_
    refine AW.renE 996 6 (by simp) (by conv=>lhs;simp) ?_
    refine AW.seqDrawR mixed 9 [[0],[40],[41],[42],[4],[44],[5],[46],[43,45,47]] [] (by kernel_rfl) ?_
    iterate 8 refine qS.o0 tok (k := ?_)
    refine qS.call [] a4 rfl rfl (by simp) (by simp) (by simp) (by simp) (by simp) (by first|(simp;done)|(simp;omega)) (by first|(simp;done)|(simp;omega)) (by kernel_rfl) (by conv=>lhs;simp) ?_
    refine qS.nil (by kernel_rfl) ⟨by kernel_rfl, ?_⟩
    refine qB.nil ?_
    refine rgz [] [[],[],[],[0,2,4]] ?_
    iterate 4 refine op3 ?_
    refine qA ?_
    exact⟨(k,(p.1,(wX u.ss).2),wK C1 u),⟨by rw[h1,hE];rfl,by simp only;omega,by simp only[qJN];omega,hg4,⟨by simp only[qPY];have:=hp2.1;omega,by simp[wX];omega⟩⟩,by simp,qE (by simp[wX]),rfl,by simp[wX],by simp[wX]⟩
   intro h32
   try simp at h32
   rw[if_neg (by simp[h32])]at hE
   have hnn:qU [42,43,63] q.2=q.2:=by unfold qU;rw[if_neg (by simp[h32])]
   rw[hnn]at hE a2 ⊢
   simp only at hE
   have hw:=hv.w (by omega)
   have hp12:=hp1.2
   have hq11:=hq1.1
   obtain⟨x,hx,hxn⟩:=qFW (ss:=q.2.ss) (i:=p.2) (by omega)
   have a4:=qMP (G:=G) q.2.ss p.2 q.1.1 x hx (by omega) (by omega)
   have hg4:InR 0 (wK (toX q.2.ss p.2 q.1.1) q.2):=hv.le 0 (k:=1) (Gr.put (by simp) (by have:=qNZ q.2.ss p.2 q.1.1;omega) fun h=>h.to hq1.1) (by omega)
   have hl4:=qDN q.2.ss p.2 q.1.1
   generalize toX q.2.ss p.2 q.1.1=C1 at *
   refine AW.skip ?_
   refine AW.seqDrawR mixed 9 [[0],[40],[41],[42],[4],[44],[5],[46],[43,45,47]] [] (by kernel_rfl) ?_
   iterate 8 refine qS.o0 tok (k := ?_)
   refine qS.call [] a4 rfl rfl (by simp) (by simp) (by simp) (by simp) (by simp) (by first|(simp;done)|(simp;omega)) (by first|(simp;done)|(simp;omega)) (by kernel_rfl) (by conv=>lhs;simp) ?_
   refine qS.nil (by kernel_rfl) ⟨by kernel_rfl, ?_⟩
   refine qB.nil ?_
   refine rgz [] [[],[],[],[0,2,4]] ?_
   iterate 4 refine op3 ?_
   refine qA ?_
   exact⟨(k,(p.1,q.1.2),wK C1 q.2),⟨by rw[h1,hE],by simp only;omega,by simp only[qJN];omega,hg4,⟨by simp only[qPY];have:=hp1.1;omega,by simp only[qPY];have:=hq1.2;omega⟩⟩,by simp,qE (by simp),rfl,by simp,by simp⟩
  intro h24
  try simp at h24
  have hE:qHL (k+1) p t=(p,t):=by
   conv=>lhs;unfold qHL
   rw[if_neg (by rintro⟨_,h⟩;simp[h]at h24;omega)]
  rw[h1,hE]
  refine AW.exit ?_
  simp
  refine rgn [] [[],[2]] ?_
  iterate 2 refine op3 ?_
  refine qA ?_
  exact AW.ret qZ
 ·
  refine rgn [.nilp,.bool false] [[]] ?_
  refine op3 ?_ (hv:=by first|exact True.intro|(exact fun h=>(hs3 h).elim;done)|omega|simp)
  refine qJ ?_
  refine qB.stepK [0,2,4,17] (zF rfl c1 (by simp)) (by conv=>lhs;simp) rfl ?_
  refine qB.run [[],[],[]] ?_
  iterate 2 refine op3 ?_ (hv:=by first|exact True.intro|(exact fun h=>(hs3 h).elim;done)|omega|simp)
  refine op4 ?_ (hv:=by first|exact True.intro|(exact fun h=>(hs3 h).elim;done)|omega|simp)
  refine qJ ?_
  refine qB.stepYIf [0,2,4,19,21] 19 (b:=false) (x := .p (.int .i32 0)) rfl rfl (by simp[hs3]) (fun h=>by cases h) (by conv=>lhs;simp) ?_
  refine qB.run [[],[],[0,2,4,24]] ?_
  iterate 2 refine op4 ?_ (hv:=by first|exact True.intro|(exact fun h=>(hs3 h).elim;done)|omega|simp)
  refine op3 ?_ (hv:=by first|exact True.intro|(exact fun h=>(hs3 h).elim;done)|omega|simp)
  refine qA (cnd ?_ ?_)
  ·intro h24
   try simp at h24
   (first|omega|(simp at h24;omega))
  intro h24
  try simp at h24
  have hE:qHL (k+1) p t=(p,t):=by
   conv=>lhs;unfold qHL
   rw[if_neg (by rintro⟨h,_⟩;exact hs3 h)]
  rw[h1,hE]
  refine AW.exit ?_
  simp
  refine rgn [] [[],[2]] ?_
  iterate 2 refine op3 ?_
  refine qA ?_
  exact AW.ret qZ
theorem zGY:∀ n,(∀ m,m<=n->RegAll G m)
 | 0,m,hm=>by
  obtain rfl:m=0:=by omega
  exact⟨fun s _ h=>by omega,fun s _ h=>by omega,fun s _ hne h=>by have:=List.length_pos_iff.2 hne;omega⟩
 | n+1,m,hm=>by
  have ih:=zGY n
  rcases Nat.lt_or_eq_of_le hm with h|rfl
  ·exact ih m (by omega)
  exact⟨fun s hi hf=>zQW n s ih hi hf,fun s hi hf=>zNI n s ih hi hf,fun s hi hne hf=>zLX n s (ih n (Nat.le_refl n)) hi hne hf⟩
theorem AFn.of_AXP {P:Program} {f:FuncId} {args:List PD} {r:V} {d:PD} (h:AX P G f (args.map .p) [] r [] []) (hfit:V.fits [] r d):AFn P G f args d:=by
 refine⟨h.1,fun M w vs hg hmem hsz hrd=>(h.2 M (fun _=>default) w vs hg (Rel.plain _ hmem hsz hrd)).mono ?_⟩
 rintro e' w' ⟨v,M',μ',rfl,r'⟩
 have hno:∀ b, ¬ wZ (fun _=>(default:Sy.Loc)) [] b:=fun b ⟨i,hi,_⟩=>by simp[qM]at hi
 have hv:=kM (r'.slots.2 0 v r (by simp) (by simp)) hfit
 exact⟨v,M',rfl,hv,r'.mem,r'.ext,fun b o hb=>r'.old b o fun hm=>hm.elim (fun h=>by simp at h;omega) (hno b),⟨r'.below.os,r'.below.tape,r'.below.output,r'.below.size,fun j hj=>r'.below.block j fun hm=>hm.elim (fun h=>by simp at h;omega) (hno j)⟩⟩
def XS.pd (x:XS):PD := .agg [x.tk.enc,x.pl.enc,.sl 1 (bN x.next)]
theorem XS.ms_pd (x:XS):MS.pd x.ms=x.pd:=by simp[MS.pd,XS.ms,XS.pd,bN]
theorem ms_pd (ss:List XS):(ss.map XS.ms).map MS.pd=ss.map XS.pd:=by
 rw[List.map_map];exact List.map_congr_left fun x _=>XS.ms_pd x
theorem zXR (ss:List XS):List.map (MS.pd ∘ XS.ms) ss=List.map XS.pd ss:=List.map_congr_left fun x _=>XS.ms_pd x
def kP (re:List UInt8):Pt × RG:=qAG (4 * (wD re).length+3) ⟨[],wD re,0,false⟩
def qMD (re:List UInt8):PD:=if 100<re.length then .tup [.nilp,.agg [.int .i64 0,.int .i64 0],.int .i64 3] else if(kP re).2.bad=true\/(kP re).2.left≠[] then .tup [.nilp,.agg [.int .i64 0,.int .i64 0],.int .i64 32]
 else .tup [.ref [.sl 3 ((kP re).2.ss.map XS.pd)],.agg [.int .i64 (kP re).1.1,.int .i64 (kP re).1.2],.int .i64 0]
def zIC (re:List UInt8):V:=if 100<re.length then .tuple [.p .nilp,.agg [.p (.int .i64 0),.p (.int .i64 0)],.p (.int .i64 3)] else if(kP re).2.bad=true\/(kP re).2.left≠[] then .tuple [.p .nilp,.agg [.p (.int .i64 0),.p (.int .i64 0)],.p (.int .i64 32)]
 else .tuple [.cptr [.sl 3 ((kP re).2.ss.map XS.pd)],.agg [.p (.int .i64 (kP re).1.1),.p (.int .i64 (kP re).1.2)],.p (.int .i64 0)]
theorem zGZ (re:List UInt8) (h:re.length<=100):InR 1 ⟨[],wD re,0,false⟩:=by
 have:=qIM re
 exact⟨qTI re,by simp[W];omega,by simp,by simp only;omega,by simp only;omega⟩
theorem zBY (re:List UInt8) (hl:re.length<=1000000):AX Tryz.prog G 141 [.p (.str re)] [] (zIC re) [] []:=by
 refine AX.introU tok 900 Tryz.func141 (by kernel_rfl) rfl rfl ?_
 simp only[Tryz.f141,qG,List.map_cons,List.map_nil]
 refine rgn [] [[],[],[0,3]] ?_
 iterate 3 refine op3 ?_
 refine qA (AW.seq (rgn [] [[],[],[0,3,9]] ?_))
 iterate 3 refine op3 ?_
 refine qA (cnd ?_ ?_)
 ·intro h9
  try simp at h9
  rw[show zIC re = .tuple [.p .nilp,.agg [.p (.int .i64 0),.p (.int .i64 0)],.p (.int .i64 3)] from if_pos (by omega)]
  refine rgn [] [[],[],[],[2,3,4]] ?_
  iterate 4 refine op3 ?_
  refine qA ?_
  exact AW.ret qZ
 intro h9
 try simp at h9
 have hV:zIC re=if(kP re).2.bad=true\/(kP re).2.left≠[] then .tuple [.p .nilp,.agg [.p (.int .i64 0),.p (.int .i64 0)],.p (.int .i64 32)] else .tuple [.cptr [.sl 3 ((kP re).2.ss.map XS.pd)],.agg [.p (.int .i64 (kP re).1.1),.p (.int .i64 (kP re).1.2)],.p (.int .i64 0)]:=if_neg (by omega)
 rw[hV]
 clear hV
 have h0:=zGZ re (by omega)
 have c1:=(zGY (G:=G) (4 * (wD re).length+3) _ (Nat.le_refl _)).alt ⟨[],wD re,0,false⟩ h0 (Nat.le_refl _)
 have hg:=(qFM (4 * (wD re).length+3)).alt ⟨[],wD re,0,false⟩
 have hR:qAG (4 * (wD re).length+3) ⟨[],wD re,0,false⟩=kP re:=rfl
 rw[hR]at c1 hg
 clear hR
 generalize kP re=q at *
 refine AW.skip (rgn [] [[],[],[]] ?_)
 iterate 3 refine op3 ?_
 refine qJ ?_
 refine qB.stepK [3,12,14] (qSP tok rfl (by conv=>lhs;simp) trivial rfl rfl rfl (by omega) 914 (by conv=>lhs;simp) (by conv=>lhs;simp)) (by conv=>lhs;simp) rfl ?_
 refine qB.run [[],[],[3,5]] ?_
 iterate 3 refine op3 ?_
 refine qA ?_
 refine AW.freezeE 914 (by conv=>lhs;simp) ?_
 refine AW.renE 916 2 (by simp) (by conv=>lhs;simp) ?_
 refine AW.renE 912 5 (by simp) (by conv=>lhs;simp) ?_
 refine AW.beginMach 5 6 0 215 3 (by simp;exact⟨rfl,rfl⟩) (by simp) (by simp) (by conv=>lhs;simp) ?_
 refine rgn [] [[]] ?_
 refine op3 ?_
 refine qJ ?_
 refine qB.stepK [3,5,18] (zF rfl c1 (by simp)) (by conv=>lhs;simp) rfl ?_
 refine qB.run [[],[3,5,6]] ?_
 iterate 2 refine op3 ?_
 refine qA (AW.seq (rgn [] [[],[],[],[],[3,5,6,23],[],[],[],[],[3,5,6,23,28],[],[3,5,6,30]] ?_))
 iterate 5 refine op3 ?_
 iterate 6 refine op4 ?_
 refine op3 ?_
 refine qA (cnd ?_ ?_)
 ·intro h30
  try simp at h30
  have hb:q.2.bad=true\/q.2.left≠[]:=by
   rcases h30 with h|h
   ·exact .inl h
   exact .inr fun e=>by simp[e]at h
  rw[if_pos hb]
  refine rgn [] [[],[],[],[2,3,4]] ?_
  iterate 4 refine op3 ?_
  refine qA ?_
  exact AW.ret qZ
 intro h30
 try simp at h30
 have hb:¬ (q.2.bad=true\/q.2.left≠[]):=by
  rintro(h|h)
  ·simp[h]at h30
  first|exact h h30.2|(have:=List.length_pos_iff.2 h;have:=h30.2;omega)
 rw[if_neg hb]
 refine AW.skip ?_
 refine AW.freezeM 6 (es:=215) (en:=3) (ss:=q.2.ss.map XS.ms) (by simp) (by simp[XS.ms]) (by conv=>lhs;simp[zXR]) ?_
 refine AW.freezeV 5 (by conv=>lhs;simp) ?_
 refine AW.seqRunDrawK tok mixed [2,3,4] 6 [[5],[32],[33],[34],[6],[35]] [] [] (by kernel_rfl) (by intro C;conv=>lhs;simp) (by first|exact True.intro|omega|simp) (by simp[Sm.sum,Sm.foot,Sm.tch,Sm.refs];kernel_rfl) (by intro C;conv=>lhs;simp) (by first|exact True.intro|omega|simp) ?_
 exact AW.ret qZ
theorem zBX (re:List UInt8) (hl:re.length<=1000000):AFn Tryz.prog G 141 [.str re] (qMD re):=by
 refine AFn.of_AXP (zBY re hl) ?_
 unfold zIC qMD
 split
 ·simp[V.fits,V.fitsL]
 split
 ·simp[V.fits,V.fitsL]
 simp[V.fits,V.fitsL]
def qHR (x:XS) (a e:Int):Bool:=x.tk.is || !x.pl.run a e
def wC:Nat->List XS->List Bool->Nat->Int->Int->List Bool
 | 0,_,set,_,_,_=>set
 | n+1,ss,set,i,a,e=>if set.getD i true=true then set else if qHR (ss.getD i noX) a e=true then set.set i true else
  (ss.getD i noX).next.foldl (fun st k=>wC n ss st k a e) (set.set i true)
def xM (l:List Bool):Nat:=l.countP fun b => !b
theorem qQU:∀ (l:List Bool) (i:Nat),l[i]?=some false->xM (l.set i true)+1=xM l
 | [],i,h=>by simp at h
 | b::l,0,h=>by simp at h;subst h;simp[xM]
 | b::l,i+1,h=>by
  simp at h
  have:=qQU l i h
  simp only[xM,List.set_cons_succ,List.countP_cons]at this ⊢
  omega
theorem qEF {α β:Type} (P:β->Prop) (f:β->α->β) (hf:∀ b a,P b->P (f b a)):∀ (l:List α) (b:β),P b->P (l.foldl f b)
 | [],b,h=>h
 | a::l,b,h=>qEF P f hf l (f b a) (hf b a h)
theorem uA (ss:List XS) (a e:Int):∀ n set i,(wC n ss set i a e).length=set.length/\xM (wC n ss set i a e)<=xM set
 | 0,set,i=>⟨rfl,Nat.le_refl _⟩
 | n+1,set,i=>by
  have hs:(set.set i true).length=set.length/\xM (set.set i true)<=xM set:=by
   refine⟨by simp, ?_⟩
   by_cases h:set[i]?=some false
   ·have:=qQU set i h;omega
   have:set.set i true=set:=by
    apply List.ext_getElem?
    intro j
    rw[List.getElem?_set]
    split
    ·rename_i e;subst e
     cases hx:set[i]? with
     | none=>split <;> first|rfl|(rename_i hl;simp at hx;omega)
     | some b =>
      cases b with
      | false=>exact(h hx).elim
      | true=>split <;> first|rfl|(rename_i hl;have:=(List.getElem?_eq_some_iff.1 hx).1;omega)
    rfl
   rw[this];exact Nat.le_refl _
  unfold wC
  split
  ·exact⟨rfl,Nat.le_refl _⟩
  split
  ·exact hs
  refine qEF (fun st=>st.length=set.length/\xM st<=xM set) _ (fun st k h => ?_) _ _ hs
  obtain⟨h1,h2⟩:=uA ss a e n st k
  exact⟨h1.trans h.1,Nat.le_trans h2 h.2⟩
abbrev bT (l:List Bool):List PD:=l.map PD.bool
theorem zGH {ss:List XS} (hg:GS ss) {x:XS} (hx:x∈ss):(x.tk.enc = .nilf/\x.pl.enc = .nilf/\x.tk.is=false/\∀ a e,qHR x a e=false) \/
  (∃ f,x.tk.enc = .nilf/\x.pl.enc = .fn f/\x.tk.is=false/\∀ a e,AFn Tryz.prog G f [.int .i64 a,.int .i64 e] (.bool (!qHR x a e))) \/
  (∃ f,x.tk.enc = .fn f/\x.pl.enc = .nilf/\x.tk.is=true/\(∀ a e,qHR x a e=true)/\x.next≠[]/\∀ c,AFn Tryz.prog G f [.int .i32 c] (.bool (x.tk.run c))) \/
  (∃ f c1,x.tk.enc = .clo f [.ref [c1]]/\x.pl.enc = .nilf/\x.tk.is=true/\(∀ a e,qHR x a e=true)/\x.next≠[]/\∀ c,AFn Tryz.prog G f [.int .i32 c,.ref [c1]] (.bool (x.tk.run c))) \/
  (∃ f c1 c2,x.tk.enc = .clo f [.ref [c1],.ref [c2]]/\x.pl.enc = .nilf/\x.tk.is=true/\(∀ a e,qHR x a e=true)/\x.next≠[]/\∀ c,AFn Tryz.prog G f [.int .i32 c,.ref [c1],.ref [c2]] (.bool (x.tk.run c))):=by
 have h:=(hg x hx).2
 obtain⟨t,p,nx⟩:=x
 cases t with
 | no =>
  cases p with
  | no=>exact .inl ⟨rfl,rfl,rfl,fun a e=>rfl⟩
  | beg=>exact .inr (.inl ⟨_,rfl,rfl,rfl,fun a e=>by simpa[qHR,Tk.is]using zYF (G:=G) a e⟩)
  | fin=>exact .inr (.inl ⟨_,rfl,rfl,rfl,fun a e=>by simpa[qHR,Tk.is]using zXV (G:=G) a e⟩)
 | any =>
  obtain⟨h1,h2⟩:=h rfl
  simp only at h2;subst h2
  exact .inr (.inr (.inl ⟨_,rfl,rfl,rfl,fun a e=>rfl,h1,fun c=>zYH c⟩))
 | one d =>
  obtain⟨h1,h2⟩:=h rfl
  simp only at h2;subst h2
  exact .inr (.inr (.inr (.inl ⟨_,_,rfl,rfl,rfl,fun a e=>rfl,h1,fun c=>zTG d c⟩)))
 | cls l =>
  obtain⟨h1,h2⟩:=h rfl
  simp only at h2;subst h2
  exact .inr (.inr (.inr (.inl ⟨_,_,rfl,rfl,rfl,fun a e=>rfl,h1,fun c=>zUM l c⟩)))
 | items l b =>
  obtain⟨h1,h2⟩:=h rfl
  simp only at h2;subst h2
  exact .inr (.inr (.inr (.inr ⟨_,_,_,rfl,rfl,rfl,fun a e=>rfl,h1,fun c=>zKZ l b c⟩)))
theorem qZJ (n:Nat) (ss:List XS) (set:List Bool) (i:Nat) (a e:Int) (hg:GS ss) (hn:∀ x∈ss,x.next.length<=1000000) (hl:set.length=ss.length) (hi:i<ss.length) (hf:xM set<=n+1) (ih:∀ set i,set.length=ss.length->i<ss.length->xM set<=n->AX Tryz.prog G 189 [.cptr [.sl 3 (ss.map XS.pd)],.ms 3,.p (.int .i64 i),.p (.int .i64 a),.p (.int .i64 e)] [(3,.row 4 1 (bT set))] (.tuple []) [3] [(3,.row 4 1 (bT (wC n ss set i a e)))]):AX Tryz.prog G 189 [.cptr [.sl 3 (ss.map XS.pd)],.ms 3,.p (.int .i64 i),.p (.int .i64 a),.p (.int .i64 e)] [(3,.row 4 1 (bT set))] (.tuple []) [3] [(3,.row 4 1 (bT (wC (n+1) ss set i a e)))]:=by
 refine AX.introU tok 900 Tryz.func189 (by kernel_rfl) rfl rfl ?_
 simp only[Tryz.f189,qG,List.map_cons,List.map_nil]
 obtain⟨b,hb⟩:∃ b,set[i]?=some b:=⟨set[i]'(by omega),by simp⟩
 obtain⟨x,hx⟩:∃ x,ss[i]?=some x:=⟨ss[i],by simp[hi]⟩
 have hxm:=List.mem_of_getElem? hx
 have hS:wC (n+1) ss set i a e=if b=true then set else if qHR x a e=true then set.set i true else x.next.foldl (fun st k=>wC n ss st k a e) (set.set i true):=by
  conv=>lhs;unfold wC
  rw[show set.getD i true=b from by simp[List.getD_eq_getElem?_getD,hb],show ss.getD i noX=x from by simp[List.getD_eq_getElem?_getD,hx]]
 rw[hS]
 clear hS
 have hil:i<set.length:=by omega
 have hpd:x.pd = .agg [x.tk.enc,x.pl.enc,.sl 1 (bN x.next)]:=rfl
 have hst:=qEF (fun t=>t.length=ss.length/\xM t<=n) (fun st k=>wC n ss st k a e) (fun t k h=>⟨(uA ss a e n t k).1.trans h.1,Nat.le_trans (uA ss a e n t k).2 h.2⟩)
 have hxg:=(hg x hxm).1
 have hnx0:=hn x hxm
 have hbm:(bT set)[i]?=some (.bool b):=by simp[hb]
 have hxs:(ss.map XS.pd)[i]?=some x.pd:=by simp[hx]
 refine AW.seq (rgn [.bool b] [[],[],[],[0,1,2,3,4,16]] ?_)
 iterate 4 refine op3 ?_ (hv:=by first|exact True.intro|(simp[hb];done)|(simp[hb];omega)|omega;done|omega|simp)
 refine qA (cnd ?_ ?_)
 ·intro h16
  try simp at h16
  rw[if_pos h16]
  exact AW.ret qZ
 intro h16
 try simp at h16
 rw[if_neg (by simp[h16])]
 subst h16
 have hfr:=qQU set i hb
 have hst0:(set.set i true).length=ss.length/\xM (set.set i true)<=n:=⟨by simp[hl],by omega⟩
 refine AW.skip (rgn [.bool false,.bool true] [[],[],[],[0,1,2,3,4]] ?_)
 iterate 4 refine op3 ?_ (hv:=by first|exact True.intro|(simp[hb];done)|(simp[hb];omega)|omega;done|omega|simp)
 refine qA ?_
 rcases zGH (G:=G) hg hxm with⟨e1,e2,_,e3⟩|⟨f,e1,e2,_,e3⟩|⟨f,e1,e2,_,e3,_⟩|⟨f,c1,e1,e2,_,e3,_⟩|⟨f,c1,c2,e1,e2,_,e3,_⟩
 ·
  refine rgn [.agg [.nilf,.nilf,.sl 1 (bN x.next)]] [[],[],[],[],[0,1,3,4,23,24],[],[],[],[0,1,3,4,10]] ?_
  iterate 9 refine op3 ?_ (hv:=by first|exact True.intro|(exact⟨x,hx,by simp[XS.pd,e1,e2]⟩;done)|omega|simp)
  refine qA (AW.seq (rgn [.nilp,.bool true] [[],[],[],[],[],[0,1,3,4,10,30,32],[],[],[],[],[],[],[0,1,3,4,10,30,34,39],[],[],[0,1,3,4,10,42]] ?_))
  iterate 4 refine op3 ?_
  iterate 11 refine op4 ?_
  refine op3 ?_
  refine qA (cnd ?_ ?_)
  ·intro h42
   try simp at h42
  intro h42
  try simp at h42
  rw[if_neg (by simp[e3])]
  refine AW.skip (rgn [] [[],[],[],[0,1,3,4,44,45,46]] ?_)
  iterate 4 refine op3 ?_
  refine qA (AW.block ?_)
  refine AW.loop (α:=Nat) (fun j=>j<=x.next.length) (fun j=>⟨zA 57 [(0,.cptr [.sl 3 (ss.map XS.pd)]),(1,.ms 3),(3,.p (.int .i64 a)),(4,.p (.int .i64 e)),(44,.p (.sl 1 (bN x.next))),(45,.p (.int .i64 x.next.length)),(46,.p (.int .i64 j))],[3],[(3,.row 4 1 (bT ((x.next.take j).foldl (fun st k=>wC n ss st k a e) (set.set i true))))],900⟩) (fun j=>x.next.length-j) (0) (by omega) ⟨qE (by simp),rfl,by simp,by simp⟩ ?_
  rintro j hj
  obtain⟨ht1,ht2⟩:=hst (x.next.take j) _ hst0
  refine rgn [] [[]] ?_
  refine op3 ?_
  refine qA (AW.seq (cnd ?_ ?_))
  ·intro h47
   try simp at h47
   obtain⟨k,hk⟩:∃ k,x.next[j]?=some k:=⟨x.next[j],by simp[h47]⟩
   have hkl:=hxg k (List.mem_of_getElem? hk)
   have c5:=ih _ k ht1 hkl ht2
   have hnx:(x.next.take (j+1)).foldl (fun st k=>wC n ss st k a e) (set.set i true)=wC n ss ((x.next.take j).foldl (fun st k=>wC n ss st k a e) (set.set i true)) k a e:=by
    rw[List.take_add_one,hk];simp[List.foldl_append]
   generalize (x.next.take j).foldl (fun st k=>wC n ss st k a e) (set.set i true)=cur at *
   refine AW.skip (AW.seq (AW.block (rgn [.int .i64 k] [[],[],[0,1,3,4,12,44,45,46]] ?_)))
   iterate 3 refine op3 ?_ (hv:=by first|exact True.intro|(simp[hk];done)|(simp[hk];omega);done|omega|simp)
   refine qA (rgz [] [[],[],[],[],[]] ?_)
   iterate 5 refine op3 ?_
   refine qJ ?_
   refine qB.stepK [0,1,3,4,44,45,46] (zF rfl c5 (by simp)) (by conv=>lhs;simp) rfl ?_
   refine qB.nil ?_
   refine rgz [] [[],[0,1,3,4,44,45,46]] ?_
   iterate 2 refine op3 ?_
   refine qA ?_
   exact⟨j+1,by omega,by omega,qE (by simp[hnx]),rfl,by simp[hnx],by simp[hnx]⟩
  intro h47
  try simp at h47
  rw[List.take_of_length_le (by omega)]
  refine AW.exit ?_
  simp
  exact qBY
 ·
  refine rgn [.agg [.nilf,.fn f,.sl 1 (bN x.next)]] [[],[],[],[],[0,1,3,4,23,24],[],[],[],[0,1,3,4,10]] ?_
  iterate 9 refine op3 ?_ (hv:=by first|exact True.intro|(exact⟨x,hx,by simp[XS.pd,e1,e2]⟩;done)|omega|simp)
  refine qA (AW.seq (rgn [.nilp,.bool (!qHR x a e)] [[],[],[],[],[],[0,1,3,4,10,30,32],[],[],[],[],[],[],[0,1,3,4,10,30,34,39],[],[],[0,1,3,4,10,42]] ?_))
  iterate 4 refine op3 ?_ (hv:=by first|exact True.intro|exact e3 a e|exact fun _=>e3 a e|exact fun h=>⟨h,e3 a e⟩;done|omega|simp)
  iterate 11 refine op4 ?_ (hv:=by first|exact True.intro|exact e3 a e|exact fun _=>e3 a e|exact fun h=>⟨h,e3 a e⟩;done|omega|simp)
  refine op3 ?_ (hv:=by first|exact True.intro|exact e3 a e|exact fun _=>e3 a e|exact fun h=>⟨h,e3 a e⟩;done|omega|simp)
  refine qA (cnd ?_ ?_)
  ·intro h42
   try simp at h42
   rw[if_pos (by simpa using h42)]
   exact AW.ret qZ
  intro h42
  try simp at h42
  rw[if_neg (by simpa using h42)]
  refine AW.skip (rgn [] [[],[],[],[0,1,3,4,44,45,46]] ?_)
  iterate 4 refine op3 ?_
  refine qA (AW.block ?_)
  refine AW.loop (α:=Nat) (fun j=>j<=x.next.length) (fun j=>⟨zA 57 [(0,.cptr [.sl 3 (ss.map XS.pd)]),(1,.ms 3),(3,.p (.int .i64 a)),(4,.p (.int .i64 e)),(44,.p (.sl 1 (bN x.next))),(45,.p (.int .i64 x.next.length)),(46,.p (.int .i64 j))],[3],[(3,.row 4 1 (bT ((x.next.take j).foldl (fun st k=>wC n ss st k a e) (set.set i true))))],900⟩) (fun j=>x.next.length-j) (0) (by omega) ⟨qE (by simp),rfl,by simp,by simp⟩ ?_
  rintro j hj
  obtain⟨ht1,ht2⟩:=hst (x.next.take j) _ hst0
  refine rgn [] [[]] ?_
  refine op3 ?_
  refine qA (AW.seq (cnd ?_ ?_))
  ·intro h47
   try simp at h47
   obtain⟨k,hk⟩:∃ k,x.next[j]?=some k:=⟨x.next[j],by simp[h47]⟩
   have hkl:=hxg k (List.mem_of_getElem? hk)
   have c5:=ih _ k ht1 hkl ht2
   have hnx:(x.next.take (j+1)).foldl (fun st k=>wC n ss st k a e) (set.set i true)=wC n ss ((x.next.take j).foldl (fun st k=>wC n ss st k a e) (set.set i true)) k a e:=by
    rw[List.take_add_one,hk];simp[List.foldl_append]
   generalize (x.next.take j).foldl (fun st k=>wC n ss st k a e) (set.set i true)=cur at *
   refine AW.skip (AW.seq (AW.block (rgn [.int .i64 k] [[],[],[0,1,3,4,12,44,45,46]] ?_)))
   iterate 3 refine op3 ?_ (hv:=by first|exact True.intro|(simp[hk];done)|(simp[hk];omega);done|omega|simp)
   refine qA (rgz [] [[],[],[],[],[]] ?_)
   iterate 5 refine op3 ?_
   refine qJ ?_
   refine qB.stepK [0,1,3,4,44,45,46] (zF rfl c5 (by simp)) (by conv=>lhs;simp) rfl ?_
   refine qB.nil ?_
   refine rgz [] [[],[0,1,3,4,44,45,46]] ?_
   iterate 2 refine op3 ?_
   refine qA ?_
   exact⟨j+1,by omega,by omega,qE (by simp[hnx]),rfl,by simp[hnx],by simp[hnx]⟩
  intro h47
  try simp at h47
  rw[List.take_of_length_le (by omega)]
  refine AW.exit ?_
  simp
  exact qBY
 ·
  refine rgn [.agg [.fn f,.nilf,.sl 1 (bN x.next)]] [[],[],[],[],[0,1,3,4,23,24],[],[],[],[0,1,3,4,10]] ?_
  iterate 9 refine op3 ?_ (hv:=by first|exact True.intro|(exact⟨x,hx,by simp[XS.pd,e1,e2]⟩;done)|omega|simp)
  refine qA (AW.seq (rgn [.nilp,.bool true] [[],[],[],[],[],[0,1,3,4,10,30,32],[],[],[],[],[],[],[0,1,3,4,10,30,34,39],[],[],[0,1,3,4,10,42]] ?_))
  iterate 4 refine op3 ?_
  iterate 11 refine op4 ?_
  refine op3 ?_
  refine qA (cnd ?_ ?_)
  ·intro h42
   try simp at h42
   rw[if_pos (e3 a e)]
   exact AW.ret qZ
  intro h42
  try simp at h42
 ·
  refine rgn [.agg [.clo f [.ref [c1]],.nilf,.sl 1 (bN x.next)]] [[],[],[],[],[0,1,3,4,23,24],[],[],[],[0,1,3,4,10]] ?_
  iterate 9 refine op3 ?_ (hv:=by first|exact True.intro|(exact⟨x,hx,by simp[XS.pd,e1,e2]⟩;done)|omega|simp)
  refine qA (AW.seq (rgn [.nilp,.bool true] [[],[],[],[],[],[0,1,3,4,10,30,32],[],[],[],[],[],[],[0,1,3,4,10,30,34,39],[],[],[0,1,3,4,10,42]] ?_))
  iterate 4 refine op3 ?_
  iterate 11 refine op4 ?_
  refine op3 ?_
  refine qA (cnd ?_ ?_)
  ·intro h42
   try simp at h42
   rw[if_pos (e3 a e)]
   exact AW.ret qZ
  intro h42
  try simp at h42
 ·
  refine rgn [.agg [.clo f [.ref [c1],.ref [c2]],.nilf,.sl 1 (bN x.next)]] [[],[],[],[],[0,1,3,4,23,24],[],[],[],[0,1,3,4,10]] ?_
  iterate 9 refine op3 ?_ (hv:=by first|exact True.intro|(exact⟨x,hx,by simp[XS.pd,e1,e2]⟩;done)|omega|simp)
  refine qA (AW.seq (rgn [.nilp,.bool true] [[],[],[],[],[],[0,1,3,4,10,30,32],[],[],[],[],[],[],[0,1,3,4,10,30,34,39],[],[],[0,1,3,4,10,42]] ?_))
  iterate 4 refine op3 ?_
  iterate 11 refine op4 ?_
  refine op3 ?_
  refine qA (cnd ?_ ?_)
  ·intro h42
   try simp at h42
   rw[if_pos (e3 a e)]
   exact AW.ret qZ
  intro h42
  try simp at h42
theorem zDT (ss:List XS) (set:List Bool) (i:Nat) (a e:Int) (hb:set[i]?=some true):AX Tryz.prog G 189 [.cptr [.sl 3 (ss.map XS.pd)],.ms 3,.p (.int .i64 i),.p (.int .i64 a),.p (.int .i64 e)] [(3,.row 4 1 (bT set))] (.tuple []) [3] [(3,.row 4 1 (bT set))]:=by
 refine AX.introU tok 900 Tryz.func189 (by kernel_rfl) rfl rfl ?_
 simp only[Tryz.f189,qG,List.map_cons,List.map_nil]
 have hil:=(List.getElem?_eq_some_iff.1 hb).1
 refine AW.seq (rgn [.bool true] [[],[],[],[0,1,2,3,4,16]] ?_)
 iterate 4 refine op3 ?_ (hv:=by first|exact True.intro|(simp[hb];done)|(simp[hb];omega)|omega;done|omega|simp)
 refine qA (cnd ?_ ?_)
 ·intro h16
  try simp at h16
  exact AW.ret qZ
 intro h16
 try simp at h16
theorem zLE {l:List Bool} (h:xM l=0) {i:Nat} (hi:i<l.length):l[i]?=some true:=by
 have h1:=List.countP_eq_zero.1 h l[i] (List.getElem_mem hi)
 rw[List.getElem?_eq_getElem hi]
 cases hb:l[i]with
 | true=>rfl
 | false=>rw[hb]at h1;exact(h1 rfl).elim
theorem qCM (ss:List XS) (hg:GS ss) (hn:∀ x∈ss,x.next.length<=1000000) (a e:Int):∀ (n:Nat) (set:List Bool) (i:Nat),set.length=ss.length->i<ss.length->xM set<=n->AX Tryz.prog G 189 [.cptr [.sl 3 (ss.map XS.pd)],.ms 3,.p (.int .i64 i),.p (.int .i64 a),.p (.int .i64 e)] [(3,.row 4 1 (bT set))] (.tuple []) [3] [(3,.row 4 1 (bT (wC n ss set i a e)))]
 | 0,set,i,hl,hi,hf=>zDT ss set i a e (zLE (Nat.le_zero.1 hf) (by omega))
 | n+1,set,i,hl,hi,hf=>qZJ n ss set i a e hg hn hl hi hf fun set' j h1 h2 h3=>qCM ss hg hn a e n set' j h1 h2 h3
theorem AW.takeE {P:Program} {c:Code} {Q:Exit->St->Prop} {st st':St} (i j:Nat) (h:(st.kill j).ren i j=st') (k:AW P G c Q st'):AW P G c Q st:=AW.take i j (h ▸ k)
def stepK (ss:List XS) (now:List Bool) (c a e:Int) (k:Nat):List Bool :=
 (List.range k).foldl (fun nx i=>if(now.getD i false && (ss.getD i noX).tk.run c)=true then wC ss.length ss nx ((ss.getD i noX).next.headD 0) a e else nx) (List.replicate ss.length false)
theorem qLG (ss:List XS) (now:List Bool) (c a e:Int) (k:Nat):(stepK ss now c a e k).length=ss.length/\xM (stepK ss now c a e k)<=ss.length:=by
 have h0:xM (List.replicate ss.length false)<=ss.length:=by have:=List.countP_le_length (p:=fun b:Bool => !b) (l:=List.replicate ss.length false);simpa[xM]using this
 refine qEF (fun t=>t.length=ss.length/\xM t<=ss.length) _ (fun t i h => ?_) _ _ ⟨by simp,h0⟩
 split
 ·obtain⟨h1,h2⟩:=uA ss a e ss.length t ((ss.getD i noX).next.headD 0)
  exact⟨h1.trans h.1,Nat.le_trans h2 h.2⟩
 exact h
theorem zDS (ss:List XS) (now:List Bool) (c a e:Int) (k:Nat) {on:Bool} {x:XS} (h1:now[k]?=some on) (h2:ss[k]?=some x) :
  stepK ss now c a e (k+1)=if(on && x.tk.run c)=true then wC ss.length ss (stepK ss now c a e k) (x.next.headD 0) a e else stepK ss now c a e k:=by
 unfold stepK
 rw[List.range_succ,List.foldl_append]
 simp only[List.foldl_cons,List.foldl_nil]
 rw[show now.getD k false=on from by simp[List.getD_eq_getElem?_getD,h1],show ss.getD k noX=x from by simp[List.getD_eq_getElem?_getD,h2]]
def qEZ (ss:List XS) (l:Nat) (s:List Int):Nat->Nat->List Bool->Int->Int
 | 0,_,_,to=>to
 | n+1,a,now,to =>
  let t:=if now.getD l false=true then(a:Int) else to
  if a=s.length then t else qEZ ss l s n (a+1) (stepK ss now (s.getD a 0) (a+1) s.length ss.length) t
theorem wBN (x:XS):x.tk.is=false->∀ c,x.tk.run c=false:=by
 obtain⟨t,p,nx⟩:=x
 cases t <;> simp[Tk.is,Tk.run]
theorem zSO (a x:Int):AX Tryz.prog G 143 [.p (.int .i64 a),.ptr 7 0] [(7,.vars 3 [.p (.int .i64 x)])] (.tuple []) [7] [(7,.vars 3 [.p (.int .i64 a)])]:=by
 refine AX.introU tok 1900 Tryz.func143 (by kernel_rfl) rfl rfl ?_
 simp only[Tryz.f143,qG,List.map_cons,List.map_nil]
 refine rgz [] [[],[4]] ?_
 iterate 2 refine op3 ?_
 refine qA ?_
 exact qBY
theorem zUA (ss:List XS) (p:Pt) (s:List Int) (from_:Nat) (to:Int) (hg:GS ss) (hn:∀ x∈ss,x.next.length<=1000000) (hp:uL ss p) (hl:ss.length<=100000) (hs:s.length<=100000) (hf:from_<=s.length):AX Tryz.prog G 142 [.cptr [.sl 3 (ss.map XS.pd)],.p (.agg [.int .i64 p.1,.int .i64 p.2]),.p (.sl 1 (s.map Sy.pr)),.p (.int .i64 from_),.func (.func 143) [] [.ptr 7 0]] [(7,.vars 3 [.p (.int .i64 to)])] (.tuple []) [7] [(7,.vars 3 [.p (.int .i64 (qEZ ss p.2 s (s.length+1-from_) from_ (wC ss.length ss (List.replicate ss.length false) p.1 from_ s.length) to))])]:=by
 refine AX.introU tok 900 Tryz.func142 (by kernel_rfl) rfl rfl ?_
 simp only[Tryz.f142,qG,List.map_cons,List.map_nil]
 have h0:(List.replicate ss.length false).length=ss.length/\xM (List.replicate ss.length false)<=ss.length:=qLG ss [] 0 0 0 0
 have c1:=qCM (G:=G) ss hg hn from_ s.length ss.length (List.replicate ss.length false) p.1 h0.1 hp.1 h0.2
 have hk1:=(uA ss from_ s.length ss.length (List.replicate ss.length false) p.1).1
 rw[h0.1]at hk1
 have hrep:bT (List.replicate ss.length false)=List.replicate ss.length (PD.bool false):=by simp
 rw[hrep]at c1
 generalize wC ss.length ss (List.replicate ss.length false) p.1 from_ s.length=now0 at *
 refine rgn [] [[0,2,3,4,6]] ?_
 refine op3 ?_
 refine qA (rgn [.bool false] [[],[],[],[],[0,2,3,4,6,20],[],[0,2,3,4,6,10]] ?_)
 iterate 7 refine op3 ?_
 refine qA ?_
 refine AW.renE 921 3 (by simp) (by conv=>lhs;simp) ?_
 refine rgn [] [[],[],[],[],[],[],[]] ?_
 iterate 7 refine op3 ?_
 refine qJ ?_
 refine qB.stepK [0,2,3,4,6,10] (zF rfl c1 (by simp)) (by conv=>lhs;simp) rfl ?_
 refine qB.nil ?_
 refine rgn [] [[],[0,2,4,6,10,11]] ?_
 iterate 2 refine op3 ?_
 refine qA (AW.block ?_)
 refine AW.renE 3 8 (by simp) (by conv=>lhs;simp) ?_
 refine AW.loop (α:=Nat × List Bool × Int) (fun q=>qEZ ss p.2 s (s.length+1-from_) from_ now0 to=qEZ ss p.2 s (s.length+1-q.1) q.1 q.2.1 q.2.2/\q.1<=s.length/\q.2.1.length=ss.length) (fun q=>⟨zA 93 [(0,.cptr [.sl 3 (ss.map XS.pd)]),(2,.p (.sl 1 (s.map Sy.pr))),(4,.func (.func 143) [] [.ptr 7 0]),(6,.ptr 906 0),(10,.ms 8),(11,.p (.int .i64 q.1))],[7],[(7,.vars 3 [.p (.int .i64 q.2.2)]),(906,.vars 151 [.p (.int .i64 p.1),.p (.int .i64 p.2)]),(8,.row 4 1 (bT q.2.1))],900⟩) (fun q=>s.length+1-q.1) ((from_,now0,to)) ⟨rfl,hf,hk1⟩ ⟨qE (by simp),rfl,by simp,by simp⟩ ?_
 rintro⟨a,now,t⟩ ⟨h1,h2,h3⟩
 simp only at h1 h2 h3
 have hp2:=hp.2
 obtain⟨b,hb⟩:∃ b,now[p.2]?=some b:=⟨now[p.2]'(by omega),by simp⟩
 have hE:qEZ ss p.2 s (s.length+1-a) a now t=if a=s.length then(if b=true then(a:Int) else t) else qEZ ss p.2 s (s.length-a) (a+1) (stepK ss now (s.getD a 0) (a+1) s.length ss.length) (if b=true then(a:Int) else t):=by
  rw[show s.length+1-a=(s.length-a)+1 by omega]
  conv=>lhs;unfold qEZ
  rw[show now.getD p.2 false=b from by simp[List.getD_eq_getElem?_getD,hb]]
 rw[hE]at h1
 clear hE
 have c2:=fun x=>zSO (G:=G) a x
 refine AW.seq (AW.block ?_)
 refine AW.join (α:=Unit) (fun _=>True) (fun u=>⟨zA 93 [(0,.cptr [.sl 3 (ss.map XS.pd)]),(2,.p (.sl 1 (s.map Sy.pr))),(4,.func (.func 143) [] [.ptr 7 0]),(6,.ptr 906 0),(10,.ms 8),(11,.p (.int .i64 a))],[7],[(7,.vars 3 [.p (.int .i64 (if b=true then(a:Int) else t))]),(906,.vars 151 [.p (.int .i64 p.1),.p (.int .i64 p.2)]),(8,.row 4 1 (bT now))],900⟩) ?_ ?_
 ·
  refine rgn [.bool b] [[],[],[],[],[0,2,4,6,10,11,37]] ?_
  iterate 5 refine op3 ?_ (hv:=by first|exact True.intro|(simp[hb];done)|(simp[hb];omega)|omega;done|omega|simp)
  refine qA (cnd ?_ ?_)
  ·intro h37
   try simp at h37
   refine rgz [] [[],[]] ?_
   iterate 2 refine op3 ?_
   refine qJ ?_
   refine qB.stepK [0,2,4,6,10,11] (zF rfl (c2 t) (by simp)) (by conv=>lhs;simp) rfl ?_
   refine qB.nil ?_
   exact⟨(),trivial,qE (by simp[h37]),rfl,by simp[h37],by simp[h37]⟩
  intro h37
  try simp at h37
  refine AW.skip ?_
  exact⟨(),trivial,qE (by simp[h37]),rfl,by simp[h37],by simp[h37]⟩
 ·
  rintro u hu
  generalize (if b=true then(a:Int) else t)=t1 at *
  refine AW.seq (rgn [] [[],[],[],[0,2,4,6,10,11,44]] ?_)
  iterate 4 refine op3 ?_
  refine qA (cnd ?_ ?_)
  ·intro h44
   try simp at h44
   rw[h1,if_pos (by omega)]
   exact AW.ret qZ
  intro h44
  try simp at h44
  have hlt:a<s.length:=by omega
  rw[if_neg (by omega)]at h1
  obtain⟨c,hc⟩:∃ c,s[a]?=some c:=⟨s[a],by simp[hlt]⟩
  rw[show s.getD a 0=c from by simp[List.getD_eq_getElem?_getD,hc]]at h1
  refine AW.skip (rgn [.bool false] [[],[],[],[],[0,2,4,6,10,11,49],[],[0,2,4,6,10,11,12]] ?_)
  iterate 7 refine op3 ?_
  refine qA (AW.seq (rgn [] [[],[],[0,2,4,6,11,12,51,52,53]] ?_))
  iterate 3 refine op3 ?_
  refine qA (AW.block ?_)
  refine AW.renE 950 3 (by simp) (by conv=>lhs;simp) ?_
  refine AW.loop (α:=Nat) (fun k=>k<=ss.length) (fun k=>⟨zA 93 [(0,.cptr [.sl 3 (ss.map XS.pd)]),(2,.p (.sl 1 (s.map Sy.pr))),(4,.func (.func 143) [] [.ptr 7 0]),(6,.ptr 906 0),(11,.p (.int .i64 a)),(12,.ms 3),(51,.ms 8),(52,.p (.int .i64 ss.length)),(53,.p (.int .i64 k))],[7],[(7,.vars 3 [.p (.int .i64 t1)]),(906,.vars 151 [.p (.int .i64 p.1),.p (.int .i64 p.2)]),(8,.row 4 1 (bT now)),(3,.row 4 1 (bT (stepK ss now c (a+1) s.length k)))],900⟩) (fun k=>ss.length-k) (0) (by omega) ⟨qE (by simp[h3]),rfl,by simp[stepK,h3],by simp⟩ ?_
  rintro k hk
  refine rgn [] [[]] ?_
  refine op3 ?_
  refine qA (AW.seq (cnd ?_ ?_))
  ·intro h54
   try simp at h54
   obtain⟨on,hon⟩:∃ on,now[k]?=some on:=⟨now[k]'(by omega),by simp⟩
   obtain⟨x,hx⟩:∃ x,ss[k]?=some x:=⟨ss[k],by simp[h54]⟩
   have hxm:=List.mem_of_getElem? hx
   have hsx:=zDS ss now c (a+1) s.length k hon hx
   have hlen:=qLG ss now c (a+1) s.length k
   have hin:=hg x hxm
   have hru:=wBN x
   generalize stepK ss now c (a+1) s.length k=cur at *
   refine AW.skip (AW.seq (AW.block (rgn [.bool on] [[],[],[],[],[0,2,4,6,11,12,13,14,51,52,53]] ?_)))
   iterate 5 refine op3 ?_ (hv:=by first|exact True.intro|(simp[hon];done)|(simp[hon];omega)|omega;done|omega|simp)
   refine qA ?_
   rcases zGH (G:=G) hg hxm with⟨e1,e2,e4,_⟩|⟨f,e1,e2,e4,_⟩|⟨f,e1,e2,e4,_,e5,e6⟩|⟨f,c1,e1,e2,e4,_,e5,e6⟩|⟨f,c1,c2,e1,e2,e4,_,e5,e6⟩
   ·
    refine rgn [.agg [.nilf,.nilf,.sl 1 (bN x.next)]] [[],[],[],[],[0,2,4,6,11,12,14,51,52,53,61,62],[],[],[],[0,2,4,6,11,12,14,15,51,52,53]] ?_
    iterate 9 refine op3 ?_ (hv:=by first|exact True.intro|(exact⟨x,hx,by simp[XS.pd,e1,e2]⟩;done)|omega|simp)
    refine qA ?_
    refine AW.seqRunDrawK tok mixed [0,2,4,6,11,12,15,51,52,53,79] 15 [[14],[65],[15,66],[67,66],[68,66],[66,69],[70],[15,71],[72,71],[2,71],[11,71],[74,75,71],[76,71],[73,77,71],[71,78]] [.int .i32 c,.nilp,.bool (x.tk.run c)] [] (by kernel_rfl) (by intro C;conv=>lhs;simp) (by first|exact True.intro|omega|simp) (by simp[Sm.sum,Sm.foot,Sm.tch,Sm.refs];kernel_rfl) (by intro C;conv=>lhs;simp) (by first|exact True.intro|omega|simp) ?_
    refine cnd ?_ ?_
    ·intro h79
     try simp at h79
    intro h79
    try simp at h79
    rw[hru e4,Bool.and_false,if_neg (by simp)]at hsx
    refine AW.skip (rgz [] [[],[0,2,4,6,11,12,51,52,53]] ?_)
    iterate 2 refine op3 ?_
    refine qA ?_
    exact⟨k+1,by omega,by omega,qE (by simp[hsx]),rfl,by simp[hsx],by simp[hsx]⟩
   ·
    refine rgn [.agg [.nilf,.fn f,.sl 1 (bN x.next)]] [[],[],[],[],[0,2,4,6,11,12,14,51,52,53,61,62],[],[],[],[0,2,4,6,11,12,14,15,51,52,53]] ?_
    iterate 9 refine op3 ?_ (hv:=by first|exact True.intro|(exact⟨x,hx,by simp[XS.pd,e1,e2]⟩;done)|omega|simp)
    refine qA ?_
    refine AW.seqRunDrawK tok mixed [0,2,4,6,11,12,15,51,52,53,79] 15 [[14],[65],[15,66],[67,66],[68,66],[66,69],[70],[15,71],[72,71],[2,71],[11,71],[74,75,71],[76,71],[73,77,71],[71,78]] [.int .i32 c,.nilp,.bool (x.tk.run c)] [] (by kernel_rfl) (by intro C;conv=>lhs;simp) (by first|exact True.intro|omega|simp) (by simp[Sm.sum,Sm.foot,Sm.tch,Sm.refs];kernel_rfl) (by intro C;conv=>lhs;simp) (by first|exact True.intro|omega|simp) ?_
    refine cnd ?_ ?_
    ·intro h79
     try simp at h79
    intro h79
    try simp at h79
    rw[hru e4,Bool.and_false,if_neg (by simp)]at hsx
    refine AW.skip (rgz [] [[],[0,2,4,6,11,12,51,52,53]] ?_)
    iterate 2 refine op3 ?_
    refine qA ?_
    exact⟨k+1,by omega,by omega,qE (by simp[hsx]),rfl,by simp[hsx],by simp[hsx]⟩
   ·
    refine rgn [.agg [.fn f,.nilf,.sl 1 (bN x.next)]] [[],[],[],[],[0,2,4,6,11,12,14,51,52,53,61,62],[],[],[],[0,2,4,6,11,12,14,15,51,52,53]] ?_
    iterate 9 refine op3 ?_ (hv:=by first|exact True.intro|(exact⟨x,hx,by simp[XS.pd,e1,e2]⟩;done)|omega|simp)
    refine qA ?_
    refine AW.seqRunDrawK tok mixed [0,2,4,6,11,12,15,51,52,53,79] 15 [[14],[65],[15,66],[67,66],[68,66],[66,69],[70],[15,71],[72,71],[2,71],[11,71],[74,75,71],[76,71],[73,77,71],[71,78]] [.int .i32 c,.nilp,.bool (x.tk.run c)] [] (by kernel_rfl) (by intro C;conv=>lhs;simp) (by exact⟨fun h=>⟨h,hc⟩,fun h=>⟨h,e6 c⟩⟩) (by simp[Sm.sum,Sm.foot,Sm.tch,Sm.refs];kernel_rfl) (by intro C;conv=>lhs;simp) (by first|exact True.intro|omega|simp) ?_
    refine cnd ?_ ?_
    ·intro h79
     try simp at h79
     rw[if_pos (by simpa using h79)]at hsx
     obtain⟨k0,nx,hnx⟩:=List.exists_cons_of_ne_nil e5
     have hk0:=hin.1 k0 (by rw[hnx];simp)
     have c6:=qCM (G:=G) ss hg hn ((a:Int)+1) s.length ss.length cur k0 hlen.1 hk0 hlen.2
     rw[show x.next.headD 0=k0 from by rw[hnx];rfl]at hsx
     refine rgz [.int .i64 k0] [[],[],[],[],[],[0,2,4,6,11,12,51,52,53,80,81,85],[],[],[],[]] ?_
     iterate 10 refine op3 ?_ (hv:=by first|exact True.intro|(simp[hnx];done)|(simp[hnx];omega);done|omega|simp)
     refine qJ ?_
     refine qB.stepK [0,2,4,6,11,12,51,52,53] (zF rfl c6 (by simp)) (by conv=>lhs;simp) rfl ?_
     refine qB.nil ?_
     refine rgz [] [[],[0,2,4,6,11,12,51,52,53]] ?_
     iterate 2 refine op3 ?_
     refine qA ?_
     exact⟨k+1,by omega,by omega,qE (by simp[hsx]),rfl,by simp[hsx],by simp[hsx]⟩
    intro h79
    try simp at h79
    rw[if_neg (by simpa using h79)]at hsx
    refine AW.skip (rgz [] [[],[0,2,4,6,11,12,51,52,53]] ?_)
    iterate 2 refine op3 ?_
    refine qA ?_
    exact⟨k+1,by omega,by omega,qE (by simp[hsx]),rfl,by simp[hsx],by simp[hsx]⟩
   ·
    refine rgn [.agg [.clo f [.ref [c1]],.nilf,.sl 1 (bN x.next)]] [[],[],[],[],[0,2,4,6,11,12,14,51,52,53,61,62],[],[],[],[0,2,4,6,11,12,14,15,51,52,53]] ?_
    iterate 9 refine op3 ?_ (hv:=by first|exact True.intro|(exact⟨x,hx,by simp[XS.pd,e1,e2]⟩;done)|omega|simp)
    refine qA ?_
    refine AW.seqRunDrawK tok mixed [0,2,4,6,11,12,15,51,52,53,79] 15 [[14],[65],[15,66],[67,66],[68,66],[66,69],[70],[15,71],[72,71],[2,71],[11,71],[74,75,71],[76,71],[73,77,71],[71,78]] [.int .i32 c,.nilp,.bool (x.tk.run c)] [] (by kernel_rfl) (by intro C;conv=>lhs;simp) (by exact⟨fun h=>⟨h,hc⟩,fun h=>⟨h,e6 c⟩⟩) (by simp[Sm.sum,Sm.foot,Sm.tch,Sm.refs];kernel_rfl) (by intro C;conv=>lhs;simp) (by first|exact True.intro|omega|simp) ?_
    refine cnd ?_ ?_
    ·intro h79
     try simp at h79
     rw[if_pos (by simpa using h79)]at hsx
     obtain⟨k0,nx,hnx⟩:=List.exists_cons_of_ne_nil e5
     have hk0:=hin.1 k0 (by rw[hnx];simp)
     have c6:=qCM (G:=G) ss hg hn ((a:Int)+1) s.length ss.length cur k0 hlen.1 hk0 hlen.2
     rw[show x.next.headD 0=k0 from by rw[hnx];rfl]at hsx
     refine rgz [.int .i64 k0] [[],[],[],[],[],[0,2,4,6,11,12,51,52,53,80,81,85],[],[],[],[]] ?_
     iterate 10 refine op3 ?_ (hv:=by first|exact True.intro|(simp[hnx];done)|(simp[hnx];omega);done|omega|simp)
     refine qJ ?_
     refine qB.stepK [0,2,4,6,11,12,51,52,53] (zF rfl c6 (by simp)) (by conv=>lhs;simp) rfl ?_
     refine qB.nil ?_
     refine rgz [] [[],[0,2,4,6,11,12,51,52,53]] ?_
     iterate 2 refine op3 ?_
     refine qA ?_
     exact⟨k+1,by omega,by omega,qE (by simp[hsx]),rfl,by simp[hsx],by simp[hsx]⟩
    intro h79
    try simp at h79
    rw[if_neg (by simpa using h79)]at hsx
    refine AW.skip (rgz [] [[],[0,2,4,6,11,12,51,52,53]] ?_)
    iterate 2 refine op3 ?_
    refine qA ?_
    exact⟨k+1,by omega,by omega,qE (by simp[hsx]),rfl,by simp[hsx],by simp[hsx]⟩
   ·
    refine rgn [.agg [.clo f [.ref [c1],.ref [c2]],.nilf,.sl 1 (bN x.next)]] [[],[],[],[],[0,2,4,6,11,12,14,51,52,53,61,62],[],[],[],[0,2,4,6,11,12,14,15,51,52,53]] ?_
    iterate 9 refine op3 ?_ (hv:=by first|exact True.intro|(exact⟨x,hx,by simp[XS.pd,e1,e2]⟩;done)|omega|simp)
    refine qA ?_
    refine AW.seqRunDrawK tok mixed [0,2,4,6,11,12,15,51,52,53,79] 15 [[14],[65],[15,66],[67,66],[68,66],[66,69],[70],[15,71],[72,71],[2,71],[11,71],[74,75,71],[76,71],[73,77,71],[71,78]] [.int .i32 c,.nilp,.bool (x.tk.run c)] [] (by kernel_rfl) (by intro C;conv=>lhs;simp) (by exact⟨fun h=>⟨h,hc⟩,fun h=>⟨h,e6 c⟩⟩) (by simp[Sm.sum,Sm.foot,Sm.tch,Sm.refs];kernel_rfl) (by intro C;conv=>lhs;simp) (by first|exact True.intro|omega|simp) ?_
    refine cnd ?_ ?_
    ·intro h79
     try simp at h79
     rw[if_pos (by simpa using h79)]at hsx
     obtain⟨k0,nx,hnx⟩:=List.exists_cons_of_ne_nil e5
     have hk0:=hin.1 k0 (by rw[hnx];simp)
     have c6:=qCM (G:=G) ss hg hn ((a:Int)+1) s.length ss.length cur k0 hlen.1 hk0 hlen.2
     rw[show x.next.headD 0=k0 from by rw[hnx];rfl]at hsx
     refine rgz [.int .i64 k0] [[],[],[],[],[],[0,2,4,6,11,12,51,52,53,80,81,85],[],[],[],[]] ?_
     iterate 10 refine op3 ?_ (hv:=by first|exact True.intro|(simp[hnx];done)|(simp[hnx];omega);done|omega|simp)
     refine qJ ?_
     refine qB.stepK [0,2,4,6,11,12,51,52,53] (zF rfl c6 (by simp)) (by conv=>lhs;simp) rfl ?_
     refine qB.nil ?_
     refine rgz [] [[],[0,2,4,6,11,12,51,52,53]] ?_
     iterate 2 refine op3 ?_
     refine qA ?_
     exact⟨k+1,by omega,by omega,qE (by simp[hsx]),rfl,by simp[hsx],by simp[hsx]⟩
    intro h79
    try simp at h79
    rw[if_neg (by simpa using h79)]at hsx
    refine AW.skip (rgz [] [[],[0,2,4,6,11,12,51,52,53]] ?_)
    iterate 2 refine op3 ?_
    refine qA ?_
    exact⟨k+1,by omega,by omega,qE (by simp[hsx]),rfl,by simp[hsx],by simp[hsx]⟩
  intro h54
  try simp at h54
  obtain hkk:k=ss.length:=by omega
  subst hkk
  refine AW.exit ?_
  simp only[inBlock, ↓reduceIte]
  refine rgz [] [[],[0,2,4,6,10,11]] ?_
  iterate 2 refine op3 ?_
  refine qA ?_
  refine AW.takeE 3 8 (by conv=>lhs;simp) ?_
  refine rgz [] [[],[],[0,2,4,6,10,11]] ?_
  iterate 3 refine op3 ?_
  refine qA ?_
  exact⟨(a+1,stepK ss now c ((a:Int)+1) s.length ss.length,t1),⟨by rw[h1,show s.length+1-(a+1)=s.length-a by omega],by simp only;omega,(qLG _ _ _ _ _ _).1⟩,by simp only;omega,qE (by simp),rfl,by simp,by simp⟩
def qGA (ss:List XS) (p:Pt) (s:List Int):Nat->Nat->Int × Int
 | 0,_=>(-1, -1)
 | n+1,f=>if 0<=qEZ ss p.2 s (s.length+1-f) f (wC ss.length ss (List.replicate ss.length false) p.1 f s.length) (-1) then((f:Int),qEZ ss p.2 s (s.length+1-f) f (wC ss.length ss (List.replicate ss.length false) p.1 f s.length) (-1)) else qGA ss p s n (f+1)
def jY (re t:List UInt8):Int × Int × Int:=if 100<re.length then(0,0,3) else if(kP re).2.bad=true\/(kP re).2.left≠[] then(0,0,32)
 else((qGA (kP re).2.ss (kP re).1 (wD t) ((wD t).length+1) 0).1,(qGA (kP re).2.ss (kP re).1 (wD t) ((wD t).length+1) 0).2,0)
theorem zFA (re t:List UInt8):(qMD re = .tup [.nilp,.agg [.int .i64 0,.int .i64 0],.int .i64 3]/\jY re t=(0,0,3))\/(qMD re = .tup [.nilp,.agg [.int .i64 0,.int .i64 0],.int .i64 32]/\jY re t=(0,0,32)) \/
  (re.length<=100/\qMD re = .tup [.ref [.sl 3 ((kP re).2.ss.map XS.pd)],.agg [.int .i64 (kP re).1.1,.int .i64 (kP re).1.2],.int .i64 0]/\jY re t=((qGA (kP re).2.ss (kP re).1 (wD t) ((wD t).length+1) 0).1,(qGA (kP re).2.ss (kP re).1 (wD t) ((wD t).length+1) 0).2,0)):=by
 unfold qMD jY
 by_cases h:100<re.length
 ·rw[if_pos h,if_pos h];exact .inl ⟨rfl,rfl⟩
 rw[if_neg h,if_neg h]
 by_cases h2:(kP re).2.bad=true\/(kP re).2.left≠[]
 ·rw[if_pos h2,if_pos h2];exact .inr (.inl ⟨rfl,rfl⟩)
 rw[if_neg h2,if_neg h2];exact .inr (.inr ⟨by omega,rfl,rfl⟩)
theorem zWW (re:List UInt8) (h:re.length<=100):GS (kP re).2.ss/\uL (kP re).2.ss (kP re).1/\(kP re).2.ss.length<=100000/\∀ x∈(kP re).2.ss,x.next.length<=1000000:=by
 obtain⟨g1,g2⟩:=(qFM (4 * (wD re).length+3)).alt ⟨[],wD re,0,false⟩
 have h0:=(zGZ re h).le 0 g1 (by omega)
 have hw:=h0.w (by omega)
 exact⟨g1.g (fun x hx=>by simp at hx),g2,by have:=hw.2;show(qAG _ _).2.ss.length<=_;omega,fun x hx=>by have:=zRF hx;have:=hw.1;show x.next.length<=_;have e:W (kP re).2.ss<=41000:=hw.1;omega⟩
theorem zVF (re t:List UInt8) (hl:re.length<=1000000) (ht:t.length<=10000):AX Tryz.prog G 102 [.p (.str re),.p (.str t)] [] (.tuple [.p (.int .i64 (jY re t).1),.p (.int .i64 (jY re t).2.1),.p (.int .i64 (jY re t).2.2)]) [] []:=by
 refine AX.introU tok 900 Tryz.func102 (by kernel_rfl) rfl rfl ?_
 simp only[Tryz.f102,qG,List.map_cons,List.map_nil]
 have c1:=zBX (G:=G) re hl
 have hlr:=qIM t
 refine rgn [] [[],[],[0,1,5]] ?_
 iterate 3 refine op3 ?_
 refine qA ?_
 rcases zFA re t with⟨e1,e2⟩|⟨e1,e2⟩|⟨h0,e1,e2⟩
 ·
  rw[e1]at c1
  rw[e2]
  refine rgn [.nilp,.tup [.nilp,.agg [.int .i64 0,.int .i64 0],.int .i64 3]] [[],[],[],[],[],[1,5,13,14,15],[],[],[],[1,5,6,7,8]] ?_
  iterate 10 refine oq1 tok c1 ?_
  refine qA (AW.seq (rgn [] [[],[1,5,6,7,8,17]] ?_))
  iterate 2 refine op3 ?_
  refine qA (cnd ?_ ?_)
  ·intro h17
   try simp at h17
   refine rgn [] [[],[],[],[4,5,6]] ?_
   iterate 4 refine op3 ?_
   refine qA ?_
   exact AW.ret qZ
  intro h17
  try simp at h17
 ·
  rw[e1]at c1
  rw[e2]
  refine rgn [.nilp,.tup [.nilp,.agg [.int .i64 0,.int .i64 0],.int .i64 32]] [[],[],[],[],[],[1,5,13,14,15],[],[],[],[1,5,6,7,8]] ?_
  iterate 10 refine oq1 tok c1 ?_
  refine qA (AW.seq (rgn [] [[],[1,5,6,7,8,17]] ?_))
  iterate 2 refine op3 ?_
  refine qA (cnd ?_ ?_)
  ·intro h17
   try simp at h17
   refine rgn [] [[],[],[],[4,5,6]] ?_
   iterate 4 refine op3 ?_
   refine qA ?_
   exact AW.ret qZ
  intro h17
  try simp at h17
 ·
  rw[e1]at c1
  rw[e2]
  obtain⟨hg,hp,hln,hnx⟩:=zWW re h0
  generalize (kP re).2.ss=ss at *
  generalize (kP re).1=q at *
  refine rgn [.nilp,.tup [.ref [.sl 3 (ss.map XS.pd)],.agg [.int .i64 q.1,.int .i64 q.2],.int .i64 0]] [[],[],[],[],[],[1,5,13,14,15],[],[],[],[1,5,6,7,8]] ?_
  iterate 10 refine oq1 tok c1 ?_
  refine qA (AW.seq (rgn [] [[],[1,5,6,7,8,17]] ?_))
  iterate 2 refine op3 ?_
  refine qA (cnd ?_ ?_)
  ·intro h17
   try simp at h17
  intro h17
  try simp at h17
  refine AW.skip (rgn [] [[]] ?_)
  refine op3 ?_
  refine qJ ?_
  refine qB.stepK [5,7,8,20] (qSP tok rfl (by conv=>lhs;simp) trivial rfl rfl rfl (by omega) 919 (by conv=>lhs;simp) (by conv=>lhs;simp)) (by conv=>lhs;simp) rfl ?_
  refine qB.run [[5,7,8,9]] ?_
  refine op3 ?_
  refine qA (AW.seq ?_)
  refine AW.freezeE 919 (by conv=>lhs;simp) ?_
  refine AW.renE 905 7 (by simp) (by conv=>lhs;simp) ?_
  generalize wD t=s at *
  refine rgn [] [[],[],[],[5,7,8,9,23,24]] ?_
  iterate 4 refine op3 ?_
  refine qA (AW.block ?_)
  refine AW.loop (α:=Nat × Int) (fun a=>qGA ss q s (s.length+1) 0=qGA ss q s (s.length+1-a.1) a.1/\a.1<=s.length+1) (fun a=>⟨zA 38 [(5,.ptr 7 0),(7,.p (.ref [.sl 3 (ss.map XS.pd)])),(8,.ptr 908 0),(9,.p (.sl 1 (s.map Sy.pr))),(23,.p (.int .i64 ((s.length:Int)+1))),(24,.p (.int .i64 a.1))],[],[(7,.vars 3 [.p (.int .i64 a.2)]),(908,.vars 151 [.p (.int .i64 q.1),.p (.int .i64 q.2)])],900⟩) (fun a=>s.length+1-a.1) ((0,0)) ⟨rfl,by omega⟩ ⟨qE (by simp),rfl,by simp,by simp⟩ ?_
  rintro⟨f,y⟩ ⟨h1,h2⟩
  simp only at h1 h2
  refine rgn [] [[]] ?_
  refine op3 ?_
  refine qA (AW.seq (cnd ?_ ?_))
  ·intro h25
   try simp at h25
   have hf:f<=s.length:=by omega
   have c2:=zUA (G:=G) ss q s f (-1) hg hnx hp hln (by omega) hf
   have hF:qGA ss q s (s.length+1-f) f=if 0<=qEZ ss q.2 s (s.length+1-f) f (wC ss.length ss (List.replicate ss.length false) q.1 f s.length) (-1) then((f:Int),qEZ ss q.2 s (s.length+1-f) f (wC ss.length ss (List.replicate ss.length false) q.1 f s.length) (-1)) else qGA ss q s (s.length-f) (f+1):=by
    conv=>lhs;rw[show s.length+1-f=(s.length-f)+1 by omega]
    conv=>lhs;unfold qGA
   rw[hF]at h1
   clear hF
   generalize qEZ ss q.2 s (s.length+1-f) f (wC ss.length ss (List.replicate ss.length false) q.1 f s.length) (-1)=z at *
   refine AW.skip (AW.seq (AW.block (rgn [] [[],[4,5,7,8,9,23,24]] ?_)))
   iterate 2 refine op3 ?_
   refine qA (rgn [] [[]] ?_)
   refine op3 ?_
   refine qA (rgn [] [[],[],[],[],[]] ?_)
   iterate 5 refine op3 ?_
   refine qJ ?_
   refine qB.stepK [4,5,7,8,9,23,24] (zF rfl c2 (by simp)) (by conv=>lhs;simp) rfl ?_
   refine qB.nil ?_
   refine rgn [] [[],[4,5,7,8,9,23,24,34]] ?_
   iterate 2 refine op3 ?_
   refine qA (cnd ?_ ?_)
   ·intro h34
    try simp at h34
    rw[h1,if_pos (by omega)]
    refine AW.seqRunDrawK tok mixed [4,5,6] 3 [[4],[5],[35]] [] [] (by kernel_rfl) (by intro C;conv=>lhs;simp) (by first|exact True.intro|omega|simp) (by simp[Sm.sum,Sm.foot,Sm.tch,Sm.refs];kernel_rfl) (by intro C;conv=>lhs;simp) (by first|exact True.intro|omega|simp) ?_
    exact AW.ret qZ
   intro h34
   try simp at h34
   rw[if_neg (by omega)]at h1
   refine AW.skip (rgz [] [[],[5,7,8,9,23,24]] ?_)
   iterate 2 refine op3 ?_
   refine qA ?_
   exact⟨(f+1,z),⟨by rw[h1,show s.length+1-(f+1)=s.length-f by omega],by simp only;omega⟩,by simp only;omega,qE (by simp),rfl,by simp,by simp⟩
  intro h25
  try simp at h25
  obtain rfl:f=s.length+1:=by omega
  rw[h1,show qGA ss q s (s.length+1-(s.length+1)) (s.length+1)=(-1, -1) from by rw[Nat.sub_self];rfl]
  refine AW.exit ?_
  simp
  refine rgn [] [[],[],[]] ?_
  iterate 3 refine op3 ?_
  refine qA ?_
  exact AW.ret qZ
theorem zVE (re t:List UInt8) (hl:re.length<=1000000) (ht:t.length<=10000):AFn Tryz.prog G 102 [.str re,.str t] (.tup [.int .i64 (jY re t).1,.int .i64 (jY re t).2.1,.int .i64 (jY re t).2.2]) :=
 AFn.of_AXP (zVF re t hl ht) (by simp[V.fits,V.fitsL])
def qTA (re t:List UInt8):Bool:=decide ((jY re t).2.2=0) && decide (0<=(jY re t).1)
theorem zUZ (re t:List UInt8) (hl:re.length<=1000000) (ht:t.length<=10000):AFn Tryz.prog G 71 [.str re,.str t] (.tup [.bool (qTA re t),.int .i64 (jY re t).2.2]):=by
 refine AFn.introU tok Tryz.func71 (by kernel_rfl) rfl rfl ?_
 simp only[Tryz.f71,qG,List.map_cons,List.map_nil]
 have c1:=zVE (G:=G) re t hl ht
 have e:qTA re t=(decide ((jY re t).2.2=0) && decide (0<=(jY re t).1)):=rfl
 rw[e]
 clear e
 generalize jY re t=q at *
 refine rgn [] [[],[0,1]] ?_
 iterate 2 refine op3 ?_
 refine qA (rgn [.nilp,.tup [.int .i64 q.1,.int .i64 q.2.1,.int .i64 q.2.2]] [[],[],[12],[],[],[],[],[],[6,15],[6,8]] ?_)
 iterate 10 refine oq1 tok c1 ?_
 refine qA (rgn [] [[],[],[],[],[8,18,20],[],[],[4,22],[4,5]] ?_)
 iterate 3 refine op3 ?_
 iterate 2 refine op4 ?_
 iterate 4 refine op3 ?_
 exact qA (AW.ret qI)
end Go.Proofs.YtgcbapchinideaaGreatDoor
namespace Go.Proofs.YtgcbapchinideaaGreatDoor.Sy
open Go
set_option linter.all false
section
variable {P:Program} {T:Tab} {G:qR} {st:St}
theorem qUU {M:qW} {μ:Mu}:∀ (us:List Value) (ys:List V) (i:Nat) (arr:Array Value) (cs:List V),Cells M μ arr cs->us.length=ys.length->(∀ (k:Nat) u y,us[k]?=some u->ys[k]?=some y->Cells M μ u.cells [y])->i+us.length<=cs.length ->
  ∃ arr' cs',Cells M μ arr' cs'/\Instr.fill (fun i=>some (i * 1,1)) arr ((us.zipIdx i).map fun x=>(x.2,x.1))=some arr'/\cs'.length=cs.length/\(∀ k:Nat,i<=k->k<i+us.length->cs'[k]?=ys[k-i]?)/\∀ k:Nat,k<i->cs'[k]?=cs[k]?
 | [],[],i,arr,cs,hc,_,_,_=>⟨arr,cs,hc,rfl,rfl,fun k h1 h2=>by simp at h2;omega,fun _ _=>rfl⟩
 | u::us,y::ys,i,arr,cs,hc,hl,hg,hi=>by
  obtain⟨a1,k1,g1⟩:=zPJ (i:=i) (rest:=(us.zipIdx (i+1)).map fun x=>(x.2,x.1)) hc (hg 0 u y rfl rfl) (by simp at hi;omega)
  obtain⟨a2,c2,k2,g2,l2,p2,q2⟩:=qUU us ys (i+1) a1 (cs.set i y) k1 (by simpa using hl) (fun k u' y' h1 h2=>hg (k+1) u' y' (by simpa using h1) (by simpa using h2)) (by simp at hi ⊢; omega)
  refine⟨a2,c2,k2,by rw[List.zipIdx_cons,List.map_cons,g1,g2],by simpa using l2,fun k h1 h2 => ?_,fun k hk => ?_⟩
  ·rcases Nat.eq_or_lt_of_le h1 with e|e
   ·subst e
    rw[q2 i (by omega),List.getElem?_set_self (by simp at hi;omega),Nat.sub_self];rfl
   rw[p2 k (by omega) (by simp at h2;omega),show k-i=(k-(i+1))+1 by omega];simp
  rw[q2 k (by omega),List.getElem?_set_ne (by omega)]
 | [],_::_,_,_,_,_,h,_,_=>by simp at h
 | _::_,[],_,_,_,_,h,_,_=>by simp at h
theorem qYI (hT:TOK P T) {o:Oper} {t:TypeId} {parts:Array (Nat × Operand)} (xs:List Operand) (ys:List V) (ho:o.op = .build t parts) (hpt:parts.toList=xs.zipIdx.map fun x=>(x.2,x.1)) {ti:TI} (ht:T t=some ti) {n:Nat} {el:TypeId} (hk:ti.k = .ar n el) {te:TI} (hel:T el=some te) (hs:te.size=1) {zs:List V} (hz:ti.zero.cells=some zs) (hl:zs.length=xs.length)
  (hxl:xs.length=ys.length) (hy:∀ (k:Nat) x y,xs[k]?=some x->ys[k]?=some y->st.arg G x=(True,y)/\y.cells=some [y]):Yields P G o st (.agg ys) st:=by
 intro c M μ tmps w hg r
 obtain⟨i0,d0,hi0,hd,hd2,_,_,hzero,_⟩:=hT.get ht
 obtain⟨i1,d1,hi1,hd1,_,hsz1,_,_,_⟩:=hT.get hel
 cases hzz:i0.zero with
 | none=>rw[hzz]at hzero;simp at hzero;rw[<-hzero]at hz;simp[V.cells]at hz
 | some z0 =>
  rw[hzz]at hzero
  simp only[Option.map_some,Option.getD_some]at hzero
  rw[<-hzero]at hz
  have hc0:=Cells.of (xL M μ z0) hz
  rw[hk]at hd2
  have hdd:∃ n' e',d0 = .array n' e'/\e'=el:=by
   cases d0 <;> simp[TK.of]at hd2
   exact⟨_,_,rfl,hd2.2⟩
  obtain⟨n',e',rfl,rfl⟩:=hdd
  obtain⟨a3,c3,k3,g3,l3,p3,_⟩:=qUU (M:=M) (μ:=μ) (xs.map (Act.eval ⟨tmps,[]⟩)) ys 0 z0.cells zs hc0 (by simpa using hxl) (fun k u y h1 h2=>by
   rw[List.getElem?_map]at h1
   obtain⟨x,hx,rfl⟩:=Option.map_eq_some_iff.1 h1
   obtain⟨e1,e2⟩:=hy k x y hx h2
   exact Cells.of (qF hg r e1 trivial) e2) (by simp;omega)
  have hpm:(parts.map fun(x:Nat × Operand)=>(x.1,Act.eval ⟨tmps,[]⟩ x.2)).toList=((xs.map (Act.eval ⟨tmps,[]⟩)).zipIdx 0).map fun x=>(x.2,x.1):=by
   rw[Array.toList_map,hpt,List.map_map,List.zipIdx_map,List.map_map]
   rfl
  have hbuilt:P.built t (parts.map fun(x:Nat × Operand)=>(x.1,Act.eval ⟨tmps,[]⟩ x.2)).toList=some a3:=by
   simp only[Program.built,hi0,hd,hzz,hi1,hsz1,hs]
   rw[hpm,g3]
  have:=run_build (P:=P) w t (parts.map fun(x:Nat × Operand)=>(x.1,Act.eval ⟨tmps,[]⟩ x.2)) _ hbuilt
  have e1:(execOp (Act.eval ⟨tmps,[]⟩) o).run P w = .ok (.value (.agg a3)) w:=by
   simp only[execOp,ho]
   rw[Sem.run_bind]
   simp only[this]
   rfl
  rw[e1]
  have e3:c3=ys:=by
   apply List.ext_getElem?
   intro k
   by_cases hkl:k<xs.length
   ·have:=p3 k (Nat.zero_le _) (by simp;omega)
    rw[this,Nat.sub_zero]
   rw[List.getElem?_eq_none (by omega),List.getElem?_eq_none (by omega)]
  rw[e3]at k3
  exact⟨M,μ,r,.agg k3.size k3.one k3.get⟩
theorem zWF {o:Oper} {x y:Operand} {tys:Array TypeId} (ho:o.op = .call { callee := .builtin .min,args := #[x,y],argTypes:=tys }) {p q:Prop} {k:IntKind} {a b:Int} (h1:st.arg G x=(p,.p (.int k a))) (hp:p) (h2:st.arg G y=(q,.p (.int k b))) (hq:q):Yields P G o st (.p (.int k (if b<a then b else a))) st:=by
 intro c M μ tmps w hg r
 have e1:=(qF hg r h1 hp).p_inv
 have e2:=(qF hg r h2 hq).p_inv
 generalize hu1:Act.eval ⟨tmps,[]⟩ x=u1 at e1
 generalize hu2:Act.eval ⟨tmps,[]⟩ y=u2 at e2
 cases e1 with
 | int a1 a2 =>
 cases e2 with
 | int b1 b2 =>
 have e:(execOp (Act.eval ⟨tmps,[]⟩) o).run P w = .ok (.value (.int k (if b<a then b else a))) w:=by
  simp[execOp,ho,resolve,invoke,builtin,hu1,hu2,Builtin.min_,Builtin.min2,Result.andThen]
 rw[e]
 exact⟨M,μ,r,.p (by split;exact .int b1 b2;exact .int a1 a2)⟩
theorem zWG {o:Oper} {x y:Operand} {tys:Array TypeId} (ho:o.op = .call { callee := .builtin .max,args := #[x,y],argTypes:=tys }) {p q:Prop} {k:IntKind} {a b:Int} (h1:st.arg G x=(p,.p (.int k a))) (hp:p) (h2:st.arg G y=(q,.p (.int k b))) (hq:q):Yields P G o st (.p (.int k (if b > a then b else a))) st:=by
 intro c M μ tmps w hg r
 have e1:=(qF hg r h1 hp).p_inv
 have e2:=(qF hg r h2 hq).p_inv
 generalize hu1:Act.eval ⟨tmps,[]⟩ x=u1 at e1
 generalize hu2:Act.eval ⟨tmps,[]⟩ y=u2 at e2
 cases e1 with
 | int a1 a2 =>
 cases e2 with
 | int b1 b2 =>
 have e:(execOp (Act.eval ⟨tmps,[]⟩) o).run P w = .ok (.value (.int k (if b > a then b else a))) w:=by
  simp[execOp,ho,resolve,invoke,builtin,hu1,hu2,Builtin.max_,Builtin.max2,Result.andThen]
 rw[e]
 exact⟨M,μ,r,.p (by split;exact .int b1 b2;exact .int a1 a2)⟩
end
end Go.Proofs.YtgcbapchinideaaGreatDoor.Sy
namespace Go.Proofs.YtgcbapchinideaaGreatDoor
open Sy Go
set_option maxRecDepth 100000
set_option linter.all false
structure Dc where
 neg:Bool
 digits:List UInt8
 scale:Int
 deriving DecidableEq
@[simp] def Dc.enc (d:Dc):PD := .agg [.bool d.neg,.str d.digits,.int .i64 d.scale]
inductive Val where
 | mk (kind mask:Int) (num:Dc) (text:List UInt8) (keys:List (List UInt8)) (kids:List Val) (code:Int)
def Val.kind:Val->Int
 | .mk k _ _ _ _ _ _=>k
def Val.mask:Val->Int
 | .mk _ m _ _ _ _ _=>m
def Val.num:Val->Dc
 | .mk _ _ n _ _ _ _=>n
def Val.text:Val->List UInt8
 | .mk _ _ _ t _ _ _=>t
def Val.keys:Val->List (List UInt8)
 | .mk _ _ _ _ ks _ _=>ks
def Val.kids:Val->List Val
 | .mk _ _ _ _ _ vs _=>vs
def Val.code:Val->Int
 | .mk _ _ _ _ _ _ c=>c
@[simp] theorem Val.kind_mk (k m:Int) (n:Dc) (t:List UInt8) (ks:List (List UInt8)) (vs:List Val) (c:Int):(Val.mk k m n t ks vs c).kind=k:=rfl
@[simp] theorem Val.mask_mk (k m:Int) (n:Dc) (t:List UInt8) (ks:List (List UInt8)) (vs:List Val) (c:Int):(Val.mk k m n t ks vs c).mask=m:=rfl
@[simp] theorem Val.num_mk (k m:Int) (n:Dc) (t:List UInt8) (ks:List (List UInt8)) (vs:List Val) (c:Int):(Val.mk k m n t ks vs c).num=n:=rfl
@[simp] theorem Val.text_mk (k m:Int) (n:Dc) (t:List UInt8) (ks:List (List UInt8)) (vs:List Val) (c:Int):(Val.mk k m n t ks vs c).text=t:=rfl
@[simp] theorem Val.keys_mk (k m:Int) (n:Dc) (t:List UInt8) (ks:List (List UInt8)) (vs:List Val) (c:Int):(Val.mk k m n t ks vs c).keys=ks:=rfl
@[simp] theorem Val.kids_mk (k m:Int) (n:Dc) (t:List UInt8) (ks:List (List UInt8)) (vs:List Val) (c:Int):(Val.mk k m n t ks vs c).kids=vs:=rfl
@[simp] theorem Val.code_mk (k m:Int) (n:Dc) (t:List UInt8) (ks:List (List UInt8)) (vs:List Val) (c:Int):(Val.mk k m n t ks vs c).code=c:=rfl
mutual
def Val.enc:Val->PD
 | .mk k m n t ks vs c => .agg [.int .i64 k,.int .u64 m,.bool n.neg,.str n.digits,.int .i64 n.scale,.str t,.sl 1 (ks.map PD.str),.sl 9 (Val.encL vs),.int .i64 c]
def Val.encL:List Val->List PD
 | []=>[]
 | v::vs=>Val.enc v::Val.encL vs
end
def dc0:Dc:=⟨false,[],0⟩
def zAF:Val := .mk 1 0 dc0 [] [] [] 0
theorem Val.encL_map:∀ l,Val.encL l=l.map Val.enc
 | []=>by simp only[Val.encL,List.map_nil]
 | v::vs=>by simp only[Val.encL,List.map_cons,Val.encL_map vs]
@[simp] theorem Val.enc_def (v:Val):v.enc = .agg [.int .i64 v.kind,.int .u64 v.mask,.bool v.num.neg,.str v.num.digits,.int .i64 v.num.scale,.str v.text,.sl 1 (v.keys.map PD.str),.sl 9 (v.kids.map Val.enc),.int .i64 v.code]:=by
 cases v;simp only[Val.enc,Val.encL_map,Val.kind,Val.mask,Val.num,Val.text,Val.keys,Val.kids,Val.code]
mutual
def Val.sz:Val->Nat
 | .mk _ _ _ _ _ vs _=>1+Val.szL vs
def Val.szL:List Val->Nat
 | []=>0
 | v::vs=>Val.sz v+Val.szL vs
end
theorem Val.szL_mem {k:Val}:∀ {l:List Val},k∈l->Val.sz k<=Val.szL l
 | v::vs,h=>by
  simp only[Val.szL]
  rcases List.mem_cons.1 h with rfl|h
  ·omega
  have:=Val.szL_mem h;omega
theorem Val.sz_kid {v k:Val} (h:k∈v.kids):Val.sz k<Val.sz v:=by
 cases v;simp only[Val.kids]at h;simp only[Val.sz];have:=Val.szL_mem h;omega
theorem Val.induct {p:Val->Prop} (h:∀ v,(∀ k∈v.kids,p k)->p v) (v:Val):p v:=by
 have key:∀ n v,Val.sz v=n->p v:=by
  intro n
  induction n using Nat.strongRecOn with
  | _ n ih=>intro v hv;exact h v fun k hk=>ih _ (hv ▸ Val.sz_kid hk) k rfl
 exact key _ v rfl
theorem Val.ext {a b:Val} (h1:a.kind=b.kind) (h2:a.mask=b.mask) (h3:a.num=b.num) (h4:a.text=b.text) (h5:a.keys=b.keys) (h6:a.kids=b.kids) (h7:a.code=b.code):a=b:=by
 cases a;cases b;simp_all[Val.kind,Val.mask,Val.num,Val.text,Val.keys,Val.kids,Val.code]
theorem Dc.ext' {a b:Dc} (h1:a.neg=b.neg) (h2:a.digits=b.digits) (h3:a.scale=b.scale):a=b:=by cases a;cases b;simp_all
set_option maxHeartbeats 4000000
variable {G:qR}
theorem zLN (ks:List (List UInt8)) (hn:ks.length<=1000000):AX Tryz.prog G 140 [.p (.sl 1 (ks.map PD.str))] [] (.ms 905) [] [(905,.row 9 1 (ks.map PD.str))]:=by
 refine AX.introU tok 900 Tryz.func140 (by kernel_rfl) rfl rfl ?_
 simp only[Tryz.f140,qG,List.map_cons,List.map_nil]
 refine rgn [] [[0]] ?_
 refine op3 ?_
 refine qA (AW.seq (rgn [] [[]] ?_))
 refine op3 ?_
 refine qJ ?_
 refine qB.nilEq tok [0,4] rfl rfl (by conv=>lhs;simp) trivial rfl ?_
 intro bn1 hbn1
 refine qB.same (by conv=>lhs;simp) ?_
 refine qB.nil ?_
 refine cnd ?_ ?_
 ·intro h4
  try simp at h4
  have hks:ks=[]:=by
   by_cases h:ks=[]
   ·exact h
   rw[hbn1 (by simpa using h)]at h4;cases h4
  subst hks
  refine rgn [] [[]] ?_
  refine op3 ?_
  refine qA ?_
  refine AW.beginE 2 905 9 1 (by simp) (by simp) (by conv=>lhs;simp) ?_
  exact AW.ret qZ
 intro h4
 try simp at h4
 refine AW.skip (rgn [] [[],[],[],[2]] ?_)
 iterate 4 refine op3 ?_
 refine qA ?_
 exact AW.ret qZ
theorem zLO (ks:List (List UInt8)) (hn:ks.length<=1000000):AR Tryz.prog G 140 [.sl 1 (ks.map PD.str)] 9 1 (ks.map PD.str):=AR.of_AX (k:=905) (by simpa using zLN ks hn)
theorem zLM (vs:List Val) (hn:vs.length<=1000000):AX Tryz.prog G 38 [.p (.sl 9 (vs.map Val.enc))] [] (.ms 905) [] [(905,.row 31 9 (vs.map Val.enc))]:=by
 refine AX.introU tok 900 Tryz.func38 (by kernel_rfl) rfl rfl ?_
 simp only[Tryz.f38,qG,List.map_cons,List.map_nil]
 refine rgn [] [[0]] ?_
 refine op3 ?_
 refine qA (AW.seq (rgn [] [[]] ?_))
 refine op3 ?_
 refine qJ ?_
 refine qB.nilEq tok [0,4] rfl rfl (by conv=>lhs;simp) trivial rfl ?_
 intro bn1 hbn1
 refine qB.same (by conv=>lhs;simp) ?_
 refine qB.nil ?_
 refine cnd ?_ ?_
 ·intro h4
  try simp at h4
  have hks:vs=[]:=by
   by_cases h:vs=[]
   ·exact h
   rw[hbn1 (by simpa using h)]at h4;cases h4
  subst hks
  refine rgn [] [[]] ?_
  refine op3 ?_
  refine qA ?_
  refine AW.beginE 2 905 31 9 (by simp) (by simp) (by conv=>lhs;simp) ?_
  exact AW.ret qZ
 intro h4
 try simp at h4
 refine AW.skip (rgn [] [[],[],[],[2]] ?_)
 iterate 4 refine op3 ?_
 refine qA ?_
 exact AW.ret qZ
theorem jW (vs:List Val) (hn:vs.length<=1000000):AR Tryz.prog G 38 [.sl 9 (vs.map Val.enc)] 31 9 (vs.map Val.enc):=AR.of_AX (k:=905) (by simpa using zLM vs hn)
theorem qXC (s:List UInt8) (g:FuncId) (p:Int->Bool) (hg:∀ n:Int,AFn Tryz.prog G g [.int .i32 n] (.bool (p n))):AFn Tryz.prog G 190 [.str s,.fn g,.bool true] (.int .i64 (qCF p s)):=by
 refine AFn.introU tok Tryz.func190 (by kernel_rfl) rfl rfl ?_
 simp only[Tryz.f190,qG,List.map_cons,List.map_nil]
 refine rgn [] [[0,1,2]] ?_
 refine op3 ?_
 refine qA (AW.seq (rgn [] [[],[1,2,10]] ?_))
 iterate 2 refine op3 ?_
 refine qA (AW.block ?_)
 refine AW.loop (α:=Nat) (fun pos=>qEY p s pos=qCF p s) (fun pos=>⟨zA 21 [(1,.p (.fn g)),(2,.p (.bool true)),(10,.it 10)],[],[(10,.iter s pos)],0⟩) (fun pos=>s.length-pos) (0) (qUL p s).symm ⟨qE (by simp),rfl,by simp,by simp⟩ ?_
 rintro pos hi
 have hpos:pos<s.length->1<=(uR s pos).2:=qKI
 by_cases hs2:pos<s.length
 ·
  refine rgn [.bool true] [[],[]] ?_
  iterate 2 refine oq1 tok hs2 ?_
  refine qA (AW.seq (cnd ?_ ?_))
  ·intro h12
   try simp at h12
   refine AW.skip (AW.block (rgn [] [[],[],[],[1,2,7,8,10]] ?_))
   iterate 4 refine op3 ?_
   refine qA (rgn [.nilp,.bool (p (uR s pos).1)] [[],[],[],[],[1,2,7,10,19]] ?_)
   iterate 5 refine op3 ?_ (hv:=by first|exact True.intro|(exact hg _;done)|omega|simp)
   refine qA (cnd ?_ ?_)
   ·intro h19
    try simp at h19
    have hI:qCF p s=pos:=by rw[<-hi,qLT hs2 (by simpa using h19)]
    refine rgn [] [[],[6]] ?_
    iterate 2 refine op3 ?_
    refine qA ?_
    exact AW.ret (qI (k:=by simp[hI]))
   intro h19
   try simp at h19
   have hnx:qEY p s (pos+(uR s pos).2)=qCF p s:=by rw[<-qQS hs2 (by simpa using h19)];exact hi
   refine AW.skip ?_
   exact⟨pos+(uR s pos).2,hnx,by have:=hpos hs2;omega,qE (by simp),rfl,by simp,by simp⟩
  intro h12
  try simp at h12
 ·
  refine rgn [.bool false] [[],[]] ?_
  iterate 2 refine oq1 tok hs2 ?_
  refine qA (AW.seq (cnd ?_ ?_))
  ·intro h12
   try simp at h12
  intro h12
  try simp at h12
  refine AW.exit ?_
  simp
  refine rgn [] [[]] ?_
  refine op3 ?_
  refine qA ?_
  exact AW.ret (qI (k:=by simp[<-hi,qUP hs2]))
theorem qYC (s:List UInt8) (g:FuncId) (p:Int->Bool) (hg:∀ n:Int,AFn Tryz.prog G g [.int .i32 n] (.bool (p n))):AFn Tryz.prog G 145 [.str s,.fn g] (.int .i64 (qCF p s)):=by
 refine AFn.introU tok Tryz.func145 (by kernel_rfl) rfl rfl ?_
 simp only[Tryz.f145,qG,List.map_cons,List.map_nil]
 refine rgn [] [[0,1]] ?_
 refine op3 ?_
 refine qA (rgn [.nilp,.int .i64 (qCF p s)] [[],[],[7],[4]] ?_)
 iterate 4 refine op3 ?_ (hv:=by first|exact True.intro|(exact qXC s g p hg;done)|omega|simp)
 exact qA (AW.ret qI)
def xV (n:Int):Bool:=decide (48<=n) && decide (n<=57)
def qO (b:UInt8):Bool:=xV b.toNat
def qHJ (D:List UInt8):Nat:=D.foldl (fun n c=>n * 10+(c.toNat-48)) 0
theorem zPQ (n:Int):AFn Tryz.prog G 57 [.int .u8 n] (.bool (xV n)):=by
 refine AFn.introU tok Tryz.func57 (by kernel_rfl) rfl rfl ?_
 simp only[Tryz.f57,qG,List.map_cons,List.map_nil]
 refine rgn [] [[0]] ?_
 refine op3 ?_
 refine qA (rgn [] [[],[],[],[],[5,7],[],[2]] ?_)
 iterate 3 refine op3 ?_
 iterate 2 refine op4 ?_
 iterate 2 refine op3 ?_
 refine qA ?_
 exact AW.ret (qI (k:=by simp[xV]))
def qV (s:List UInt8) (i:Nat):Int:=((s.getD i 0).toNat:Int)
theorem xW {s:List UInt8} {i:Nat} (h:i<s.length):s[i]?=some (s.getD i 0):=by simp[List.getD_eq_getElem?_getD,h]
def wO (s:List UInt8) (k:Nat):Nat:=((s.drop k).takeWhile fun b=>xV b.toNat).length
theorem qJJ {p:UInt8->Bool}:∀ {l:List UInt8} {n:Nat},n<=(l.takeWhile p).length->((n<(l.takeWhile p).length)↔∃ b,l[n]?=some b/\p b=true)
 | [],n,h=>by simp at h;subst h;simp
 | a::l,n,h=>by
  rw[List.takeWhile_cons]at h ⊢
  by_cases ha:p a=true
  ·rw[if_pos ha]at h ⊢
   cases n with
   | zero=>simp[ha]
   | succ n=>simpa using qJJ (l:=l) (n:=n) (by simpa using h)
  rw[if_neg ha]at h ⊢
  simp at h;subst h
  simp[ha]
theorem qWC {s:List UInt8} {k n:Nat} (h:n<=wO s k):n<wO s k↔(k+n<s.length/\xV (qV s (k+n))=true):=by
 unfold wO at h ⊢
 rw[qJJ h]
 constructor
 ·rintro⟨b,hb,hd⟩
  rw[List.getElem?_drop]at hb
  have:=(List.getElem?_eq_some_iff.1 hb).1
  refine⟨this, ?_⟩
  rw[qV,List.getD_eq_getElem?_getD,hb];exact hd
 rintro⟨h1,h2⟩
 exact⟨s.getD (k+n) 0,by rw[List.getElem?_drop];exact xW h1,h2⟩
theorem qWD (s:List UInt8) (k:Nat):wO s k<=s.length:=by
 unfold wO
 have:=(List.takeWhile_sublist (l:=s.drop k) fun b:UInt8=>xV b.toNat).length_le
 simp at this;omega
theorem zWV (s:List UInt8) (k:Nat) (hs:s.length<=1000000) (hk:k<=1000000):AFn Tryz.prog G 62 [.str s,.int .i64 k] (.int .i64 (wO s k)):=by
 refine AFn.introU tok Tryz.func62 (by kernel_rfl) rfl rfl ?_
 simp only[Tryz.f62,qG,List.map_cons,List.map_nil]
 refine rgn [] [[0,1]] ?_
 refine op3 ?_
 refine qA (rgn [] [[]] ?_)
 refine op3 ?_
 refine qA (AW.seq (AW.block ?_))
 refine AW.loop (α:=Nat) (fun n=>n<=wO s k) (fun n=>⟨zA 23 [(0,.p (.str s)),(1,.p (.int .i64 k)),(5,.p (.int .i64 n))],[],[],0⟩) (fun n=>wO s k-n) (0) (by omega) ⟨qE (by simp),rfl,by simp,by simp⟩ ?_
 rintro n hn
 have hrl:=qWD s k
 have hlt:=qWC hn
 have hd:=zPQ (G:=G) (qV s (k+n))
 have hix:k+n<s.length->s[((k:Int)+n).toNat]?=some (s.getD (k+n) 0):=fun h=>by rw[show((k:Int)+n).toNat=k+n by omega];exact xW h
 refine AW.seq (rgn [.int .u8 (qV s (k+n)),.nilp,.bool (xV (qV s (k+n)))] [[],[],[],[],[],[0,1,5,11],[],[],[],[],[],[0,1,5,12,17],[],[0,1,5,19]] ?_)
 iterate 7 refine op3 ?_ (hv:=by first|exact True.intro|exact fun h=>⟨h,by omega,_,hix (by omega),rfl⟩|simp[hd];done|omega|simp)
 iterate 6 refine op4 ?_ (hv:=by first|exact True.intro|exact fun h=>⟨h,by omega,_,hix (by omega),rfl⟩|simp[hd];done|omega|simp)
 refine op3 ?_ (hv:=by first|exact True.intro|exact fun h=>⟨h,by omega,_,hix (by omega),rfl⟩|simp[hd];done|omega|simp)
 refine qA (cnd ?_ ?_)
 ·intro h19
  try simp at h19
  have hlt':=hlt.2 ⟨by omega,h19.2⟩
  refine AW.skip (AW.block (rgz [] [[],[],[0,1,5]] ?_))
  iterate 3 refine op3 ?_
  refine qA ?_
  exact⟨n+1,by omega,by omega,qE (by simp),rfl,by simp,by simp⟩
 intro h19
 try simp at h19
 have hge:n=wO s k:=by
  refine Nat.le_antisymm hn (Nat.not_lt.1 fun h => ?_)
  have:=hlt.1 h
  have:=h19 (by omega)
  simp_all
 subst hge
 refine AW.exit ?_
 simp
 refine rgn [] [[],[4]] ?_
 iterate 2 refine op3 ?_
 exact qA (AW.ret qI)
def zZ (n:Nat):List UInt8:=List.replicate n 48
theorem zMJ (n:Int) (hn:n<=1000000):AFn Tryz.prog G 63 [.int .i64 n] (.str (zZ n.toNat)):=by
 refine AFn.introU tok Tryz.func63 (by kernel_rfl) rfl rfl ?_
 simp only[Tryz.f63,qG,List.map_cons,List.map_nil]
 refine rgn [] [[0]] ?_
 refine op3 ?_
 refine qA (rgn [] [[]] ?_)
 refine op3 ?_
 refine qA (AW.seq (rgn [] [[]] ?_))
 refine op3 ?_
 refine qA (AW.block ?_)
 refine AW.loop (α:=Nat) (fun k=>k<=n.toNat) (fun k=>⟨zA 13 [(0,.p (.int .i64 n)),(3,.p (.str (zZ k))),(4,.p (.int .i64 k))],[],[],0⟩) (fun k=>n.toNat-k) (0) (by omega) ⟨qE (by simp[zZ]),rfl,by simp,by simp⟩ ?_
 rintro k hk
 refine AW.seq (rgn [] [[],[],[0,3,4,7]] ?_)
 iterate 3 refine op3 ?_
 refine qA (cnd ?_ ?_)
 ·intro h7
  try simp at h7
  refine AW.skip (AW.seq (AW.block (rgz [] [[],[],[0,3,4]] ?_)))
  iterate 3 refine op3 ?_ (hv:=by first|exact True.intro|(simp[zZ];omega;done)|omega|simp)
  refine qA (rgz [] [[],[],[0,3,4]] ?_)
  iterate 3 refine op3 ?_
  refine qA ?_
  exact⟨k+1,by omega,by omega,qE (by simp[zZ,List.replicate_succ']),rfl,by simp[zZ,List.replicate_succ'],by simp[zZ,List.replicate_succ']⟩
 intro h7
 try simp at h7
 have hkn:k=n.toNat:=by omega
 subst hkn
 refine AW.exit ?_
 simp
 refine rgn [] [[],[2]] ?_
 iterate 2 refine op3 ?_
 exact qA (AW.ret qI)
def qX (s:List UInt8):List UInt8:=s.dropWhile (· == 48)
def wH (d:List UInt8):Nat->List UInt8 × Nat
 | 0=>(d,0)
 | k+1=>if d.getLast?=some 48 then wH d.dropLast k else(d,k+1)
def wU (neg:Bool) (digits:List UInt8) (scale:Nat):Dc × Int :=
 let x:=wH (qX digits) scale
 if x.1=[] then(⟨false,[48],0⟩,0) else if 60<x.1.length\/60<x.2 then(⟨false,[],0⟩,3) else(⟨neg,x.1,x.2⟩,0)
theorem qBZ {d:List UInt8} (h:0<d.length):qV d (d.length-1)=48↔d.getLast?=some 48:=by
 rw[List.getLast?_eq_getElem?,qV,List.getD_eq_getElem?_getD,xW (by omega)]
 simp only[Option.getD_some,Option.some.injEq]
 constructor
 ·intro h2;exact UInt8.toNat_inj.1 (by have:((d.getD (d.length-1) 0).toNat:Int)=48:=h2;show(d.getD (d.length-1) 0).toNat=48;omega)
 intro h2;rw[h2];rfl
theorem qAJ (d:List UInt8):d.take (d.length-1)=d.dropLast:=(List.dropLast_eq_take).symm
theorem zIO (neg:Bool) (digits:List UInt8) (scale:Nat) (hd:digits.length<=1000000) (hs:scale<=1000000):AFn Tryz.prog G 59 [.bool neg,.str digits,.int .i64 scale] (.tup [(wU neg digits scale).1.enc,.int .i64 (wU neg digits scale).2]):=by
 refine AFn.introU tok Tryz.func59 (by kernel_rfl) rfl rfl ?_
 simp only[Tryz.f59,qG,List.map_cons,List.map_nil]
 refine rgn [] [[],[0,1,2,6]] ?_
 iterate 2 refine op3 ?_
 refine qA (AW.seq (AW.block ?_))
 refine AW.loop (α:=List UInt8) (fun r=>qX r=qX digits/\r.length<=digits.length) (fun r=>⟨zA 55 [(0,.p (.bool neg)),(1,.p (.str r)),(2,.p (.int .i64 scale)),(6,.ptr 6 0)],[],[(6,.vars 26 [.p (.bool false),.p (.str []),.p (.int .i64 0)])],0⟩) (fun r=>r.length) (digits) ⟨rfl,Nat.le_refl _⟩ ⟨qE (by simp),rfl,by simp,by simp⟩ ?_
 rintro r ⟨hr,hrl⟩
 have hix:0<r.length->r[0]?=some (r.getD 0 0):=fun h=>xW h
 refine AW.seq (rgn [.int .u8 (qV r 0)] [[],[],[],[],[],[0,1,2,6,11,13],[],[0,1,2,6,15]] ?_)
 iterate 4 refine op3 ?_ (hv:=by first|exact True.intro|exact fun h=>⟨h,_,hix (by omega),rfl⟩|simp;done|omega|simp)
 iterate 3 refine op4 ?_ (hv:=by first|exact True.intro|exact fun h=>⟨h,_,hix (by omega),rfl⟩|simp;done|omega|simp)
 refine op3 ?_ (hv:=by first|exact True.intro|exact fun h=>⟨h,_,hix (by omega),rfl⟩|simp;done|omega|simp)
 refine qA (cnd ?_ ?_)
 ·intro h15
  try simp at h15
  obtain⟨b,r,rfl⟩:∃ b r',r=b::r':=by
   cases r with
   | nil=>simp at h15
   | cons b r=>exact⟨b,r,rfl⟩
  have hb:b=48:=UInt8.toNat_inj.1 (by have h9:(b.toNat:Int)=48:=h15.2;show b.toNat=48;omega)
  have hr':qX r=qX digits:=by rw[<-hr];simp[qX,hb]
  simp at hrl
  refine AW.skip (AW.block (rgz [] [[],[],[0,1,2,6]] ?_))
  iterate 3 refine op3 ?_
  refine qA ?_
  exact⟨r,⟨hr',by omega⟩,by simp,qE (by simp),rfl,by simp,by simp⟩
 intro h15
 try simp at h15
 have hr':qX digits=r:=by
  rw[<-hr]
  cases r with
  | nil=>rfl
  | cons b r =>
   have hb:b≠48:=by rintro rfl;simp[qV]at h15
   simp[qX,hb]
 have hN:wU neg digits scale=(if(wH r scale).1=[] then(⟨false,[48],0⟩,0) else if 60<(wH r scale).1.length\/60<(wH r scale).2 then(⟨false,[],0⟩,3) else(⟨neg,(wH r scale).1,(wH r scale).2⟩,0)):=by simp only[wU,hr']
 rw[hN]
 clear hN hix h15 hr hr'
 refine AW.exit ?_
 simp
 refine AW.seq (AW.block ?_)
 refine AW.loop (α:=List UInt8 × Nat) (fun a=>wH r scale=wH a.1 a.2/\a.2<=scale/\a.1.length<=digits.length) (fun a=>⟨zA 55 [(0,.p (.bool neg)),(1,.p (.str a.1)),(2,.p (.int .i64 a.2)),(6,.ptr 6 0)],[],[(6,.vars 26 [.p (.bool false),.p (.str []),.p (.int .i64 0)])],0⟩) (fun a=>a.2) ((r,scale)) ⟨rfl,Nat.le_refl _,hrl⟩ ⟨qE (by simp),rfl,by simp,by simp⟩ ?_
 rintro⟨d,k⟩ ⟨ht,hk,hdl⟩
 simp only at ht hk hdl
 have hix:0<d.length->d[d.length-1]?=some (d.getD (d.length-1) 0):=fun h=>xW (by omega)
 refine AW.seq (rgn [.int .u8 (qV d (d.length-1))] [[],[],[],[],[],[0,1,2,6,20,23],[],[],[],[],[0,1,2,6,25,26,28],[],[],[0,1,2,6,25,31],[0,1,2,6,32]] ?_)
 iterate 15 first|refine op3 ?_ (hv:=by first|exact True.intro|exact fun h1 h2=>⟨⟨h1,h2⟩,by omega,by omega⟩|exact fun h1 h2=>⟨⟨h1,h2⟩,by omega,_,hix h2,rfl⟩|simp;done|omega|simp)|refine op4 ?_ (hv:=by first|exact True.intro|(first|exact fun h1 h2=>⟨⟨h1,h2⟩,by omega,by omega⟩|exact fun h1 h2=>⟨⟨h1,h2⟩,by omega,_,hix h2,rfl⟩|simp;done)|omega|simp)
 refine qA (cnd ?_ ?_)
 ·intro h32
  try simp at h32
  obtain⟨k,rfl⟩:∃ k',k=k'+1:=⟨k-1,by omega⟩
  have hl:=(qBZ h32.1.2).1 h32.2
  have ht':wH r scale=wH d.dropLast k:=by rw[ht];simp only[wH];rw[if_pos hl]
  refine AW.skip (AW.block (rgn [] [[],[],[],[],[0,2,6,37],[0,1,2,6]] ?_))
  iterate 6 refine op3 ?_
  refine qA (rgz [] [[],[],[0,1,2,6]] ?_)
  iterate 3 refine op3 ?_
  refine qA ?_
  exact⟨(d.dropLast,k),⟨ht',by simp only[];omega,by simp;omega⟩,by simp,qE (by simp[qAJ]),rfl,by simp[qAJ],by simp[qAJ]⟩
 intro h32
 try simp at h32
 have htl:wH d k=(d,k):=by
  cases k with
  | zero=>rfl
  | succ k =>
   simp only[wH]
   rw[if_neg]
   intro hl
   have hpos:0<d.length:=by cases d with
    | nil=>simp at hl
    | cons=>simp
   have:=(qBZ hpos).2 hl
   simp[hpos,this]at h32
 rw[ht,htl]
 refine AW.exit ?_
 simp
 refine AW.seq (rgn [] [[],[0,1,2,6,41]] ?_)
 iterate 2 refine op3 ?_
 refine qA (cnd ?_ ?_)
 ·intro h41
  try simp at h41
  subst h41
  refine rgn [] [[],[],[6,7]] ?_
  iterate 3 refine op3 ?_
  exact qA (AW.ret qI)
 intro h41
 try simp at h41
 refine AW.skip (AW.seq (rgn [] [[],[],[],[],[],[0,1,2,6,46,48],[0,1,2,6,49]] ?_))
 iterate 4 refine op3 ?_
 iterate 2 refine op4 ?_
 refine op3 ?_
 refine qA (cnd ?_ ?_)
 ·intro h49
  try simp at h49
  have hbig:60<d.length\/60<k:=by omega
  refine rgn [] [[],[],[6,7]] ?_
  iterate 3 refine op3 ?_
  refine qA ?_
  exact AW.ret (qI (k:=by simp[h41,hbig]))
 intro h49
 try simp at h49
 have hbig:¬ (60<d.length\/60<k):=by omega
 refine AW.skip (rgn [] [[],[],[],[6,54],[],[6,7]] ?_)
 iterate 6 refine op3 ?_
 refine qA ?_
 exact AW.ret (qI (k:=by simp[h41,hbig]))
def qCD (n:Int):Bool:=decide (n<48) || decide (57<n)
theorem zNU (n:Int):AFn Tryz.prog G 146 [.int .i32 n] (.bool (qCD n)):=by
 refine AFn.introU tok Tryz.func146 (by kernel_rfl) rfl rfl ?_
 simp only[Tryz.f146,qG,List.map_cons,List.map_nil]
 refine rgn [] [[0]] ?_
 refine op3 ?_
 refine qA (rgn [] [[],[],[],[],[5,7],[],[2]] ?_)
 iterate 3 refine op3 ?_
 iterate 2 refine op4 ?_
 iterate 2 refine op3 ?_
 refine qA ?_
 exact AW.ret (qI (k:=by simp[qCD]))
theorem zKG (b:UInt8):qCD b.toNat = !qO b:=by
 rw[Bool.eq_iff_iff];simp[qCD,qO,xV]
def zO (d:Dc):Bool:=d.digits.all qO && decide (1<=d.digits.length/\d.digits.length<=60/\0<=d.scale/\d.scale<=60) &&
 (if d.digits=[48] then decide (d.scale=0) && !d.neg else decide (qV d.digits 0≠48) && (decide (d.scale=0) || decide (qV d.digits (d.digits.length-1)≠48)))
theorem zLK {d:Dc} (h:1<=d.digits.length/\d.digits.length<=60/\0<=d.scale/\d.scale<=60) (ha:d.digits.all qO=true) :
  zO d=(if d.digits=[48] then decide (d.scale=0) && !d.neg else decide (qV d.digits 0≠48) && (decide (d.scale=0) || decide (qV d.digits (d.digits.length-1)≠48))):=by
 unfold zO;rw[ha,show decide (1<=d.digits.length/\d.digits.length<=60/\0<=d.scale/\d.scale<=60)=true by simpa using h];simp
namespace Sy
variable {P:Program} {G:qR}
theorem AFn.of_calls {f:FuncId} {args:List PD} {r:PD} (hc:qBN P f) (h:∀ (M:qW) (w:World) (vs:Array Value),GOK G M w->(∀ b o v,M b o=some v->w.cell? ⟨b,o,none⟩=some v)->vs.size=args.length ->
  (∀ (i:Nat) u d,vs[i]?=some u->args[i]?=some d->Rd M u d)->Calls P f vs w fun e w'=>∃ v,e = .returned v/\Rd M v r/\RowKit.Below w.heap.size w w'):AFn P G f args r:=by
 refine⟨hc,fun M w vs hg hmem hsz hrd=>(h M w vs hg hmem hsz hrd).mono ?_⟩
 rintro e w' ⟨v,rfl,hv,hb⟩
 refine⟨v,M,rfl,hv,fun b o u hu => ?_,fun _ _ _ h=>h,fun _ _ _=>rfl,hb⟩
 have h1:=hmem b o u hu
 exact(World.cell?_of_block (w:=w) (hb.block b (yM h1))).trans h1
theorem kA {f : FuncId} {fn : Func} {c : Code} (hf : P.funcs[f]? = some fn) (hn : (fn.name == "runtime.NumGoroutine") = false) (hb : fn.body = some c) : qBN P f := ⟨fn, c, hf, hn, hb⟩
theorem zIL {M:qW} {vs:Array Value} {s:List UInt8} (hsz:vs.size=1) (h:∀ (i:Nat) u d,vs[i]?=some u->[PD.str s][i]?=some d->Rd M u d):∃ b:ByteArray,vs = #[.string b]/\b.data.toList=s/\b.size<=maxLen:=by
 obtain⟨l⟩:=vs
 match l,hsz with
 | [u],_ =>
  have:=h 0 u (.str s) rfl rfl
  cases this with
  | @str b _ hs hm=>exact⟨b,rfl,hs,by rw[xF hs];exact hm⟩
def qLX:List PD:=(List.range 256).map fun c => .int .u8 (Lib.firstT c)
def zGD:List PD:=(List.range 32).map fun i => .int .u8 (if i % 2=0 then Lib.accLo (i / 2) else Lib.accHi (i / 2))
def zCY (g3 g4:Nat) (G:qR):Prop:=G g3=some qLX/\G g4=some zGD
theorem zSH {g3 g4:Nat} {M:qW} {w:World} (hG:zCY g3 g4 G) (hg:GOK G M w) (hmem:∀ b o v,M b o=some v->w.cell? ⟨b,o,none⟩=some v):Lib.Utf8Tabs g3 g4 w:=by
 have key:∀ (g:Nat) (cs:List PD) (j:Nat) (n:Int),G g=some cs->cs[j]?=some (.int .u8 n)->w.cell? ⟨g,j,none⟩=some (.int .u8 n):=by
  intro g cs j n h1 h2
  obtain⟨h3,h4⟩:=hg.1 g cs h1
  obtain⟨u,hu,_⟩:=h3 j _ h2
  have:=h4 j _ u h2 hu
  cases this
  exact hmem _ _ _ hu
 refine⟨fun c hc=>key _ _ _ _ hG.1 (by simp[qLX,hc]),fun i hi=>⟨key _ _ _ _ hG.2 ?_,key _ _ _ _ hG.2 ?_⟩⟩
 ·simp[zGD,show 2 * i<32 by omega]
 simp only[zGD,List.getElem?_map,List.getElem?_range (show 2 * i+1<32 by omega),Option.map_some]
 rw[if_neg (by omega),show(2 * i+1) / 2=i by omega]
def u8G (g3 g4:Nat):qR:=fun g=>if g=g3 then some qLX else if g=g4 then some zGD else none
theorem zSI {g3 g4:Nat} (h:g4≠g3):zCY g3 g4 (u8G g3 g4):=⟨by simp[u8G],by simp[u8G,h]⟩
theorem zWQ {g3 g4:Nat} {W:World} (h:Lib.Utf8Tabs g3 g4 W) (hne:g4≠g3):GOK (u8G g3 g4) (uX W) W:=by
 have one:∀ (g j:Nat) (cs:List PD),(∀ (j:Nat) d,cs[j]?=some d->∃ n:Int,d = .int .u8 n/\0<=n/\n<=255/\W.cell? ⟨g,j,none⟩=some (.int .u8 n)) ->
   (∀ (j:Nat) d,cs[j]?=some d->∃ u,uX W g j=some u/\u.oneCell'=true)/\(∀ (j:Nat) d u,cs[j]?=some d->uX W g j=some u->Rd (uX W) u d):=by
  intro g _ cs hc
  refine⟨fun j d hd => ?_,fun j d u hd hu => ?_⟩
  ·obtain⟨n,rfl,_,_,h⟩:=hc j d hd;exact⟨_,h,rfl⟩
  obtain⟨n,rfl,h0,h1,h⟩:=hc j d hd
  have:some u=some (Value.int .u8 n):=hu.symm.trans h
  cases this
  exact .int (by rw[jK];exact h0) (by rw[kV];exact h1)
 have hft:∀ c,(0:Int)<=Lib.firstT c/\(Lib.firstT c:Int)<=255:=fun c=>by
  rcases Lib.firstT_cases c with h|h|h|h|h|h|h|h|h <;> rw[h] <;> omega
 have hno:GX (u8G g3 g4) W:=fun g cs hg ht=>by
  simp only[u8G]at hg
  split at hg
  ·cases hg;exact absurd ht (by rw[show zHS qLX=false from rfl];simp)
  split at hg
  ·cases hg;exact absurd ht (by rw[show zHS zGD=false from rfl];simp)
  cases hg
 refine⟨?_,hno⟩
 intro g cs hg
 simp only[u8G]at hg
 split at hg
 ·rename_i e
  subst e
  cases hg
  refine one g 0 _ fun j d hd => ?_
  have hj:j<256:=by have:=(List.getElem?_eq_some_iff.1 hd).1;simpa[qLX]using this
  simp[qLX,hj]at hd
  exact⟨_,hd.symm,(hft j).1,(hft j).2,h.1 j hj⟩
 split at hg
 ·rename_i _ e
  subst e
  cases hg
  refine one g 0 _ fun j d hd => ?_
  have hj:j<32:=by have:=(List.getElem?_eq_some_iff.1 hd).1;simpa[zGD]using this
  simp only[zGD,List.getElem?_map,List.getElem?_range hj,Option.map_some,Option.some.injEq]at hd
  have hb:=h.2 (j / 2) (by omega)
  have hacc:∀ i,i<16->(0:Int)<=Lib.accLo i/\(Lib.accLo i:Int)<=255/\(0:Int)<=Lib.accHi i/\(Lib.accHi i:Int)<=255:=by decide
  have hac:=hacc (j / 2) (by omega)
  by_cases h2:j % 2=0
  ·rw[if_pos h2]at hd
   exact⟨_,hd.symm,hac.1,hac.2.1,by have:=hb.1;rwa [show 2 * (j / 2)=j by omega]at this⟩
  rw[if_neg h2]at hd
  exact⟨_,hd.symm,hac.2.2.1,hac.2.2.2,by have:=hb.2;rwa [show 2 * (j / 2)+1=j by omega]at this⟩
 cases hg
end Sy
abbrev U8 (G:qR):Prop:=zCY 1 2 G
@[simp] def Val.cells (v:Val):List V:=[.p (.int .i64 v.kind),.p (.int .u64 v.mask),.p (.bool v.num.neg),.p (.str v.num.digits),.p (.int .i64 v.num.scale),.p (.str v.text),.p (.sl 1 (v.keys.map PD.str)),.p (.sl 9 (v.kids.map Val.enc)),.p (.int .i64 v.code)]
def qAR (s:List UInt8):Bool:=decide ((s.length:Int)<=4096) && Lib.validD s
def qNG (l:List (List UInt8)):Bool:=l.all qAR && decide l.Nodup
def zOB (v:Val):Bool:=if v.kind=4 then zO v.num else decide (v.num.neg=false/\v.num.digits=[]/\v.num.scale=0)
def qYY (v:Val):Bool:=if v.kind=5 then qAR v.text else decide (v.text=[])
def qLP (v:Val):Bool:=if v.kind=7 then decide ((v.keys.length:Int)=v.kids.length) && qNG v.keys else decide (v.keys=[])
def zHQ (v:Val):Bool:=decide (v.kids=[]) || decide (v.kind=6) || decide (v.kind=7)
def zID (v:Val):Bool:=decide (decide (v.kind=8) = !decide (v.code=0))
def qDU (v:Val):Bool:=zID v && zOB v && qYY v && qLP v && zHQ v
def qEO (v:Val):Bool:=decide (1<=v.kind/\v.kind<=8/\v.kids.length<=200)
mutual
def zX:Val->Bool
 | .mk k m n t ks vs c=>qEO (.mk k m n t ks vs c) && qDU (.mk k m n t ks vs c) && zAX vs
def zAX:List Val->Bool
 | []=>true
 | v::vs=>zX v && zAX vs
end
theorem qTX:∀ l,zAX l=l.all zX
 | []=>by simp[zAX]
 | v::vs=>by simp[zAX,qTX vs]
theorem qBV (v:Val):zX v=(qEO v && qDU v && v.kids.all zX):=by
 cases v;simp only[zX,qTX,Val.kids]
def qUJ (v:Val) (s:List UInt8):Val:=v.kids.getD (v.keys.idxOf s) zAF
theorem qUI {v:Val} (hl:v.keys.length<=v.kids.length) {s:List UInt8} (h:s∈v.keys):v.kids[v.keys.idxOf s]?=some (qUJ v s):=by
 have:=List.idxOf_lt_length_of_mem h
 simp[qUJ,List.getD_eq_getElem?_getD,show v.keys.idxOf s<v.kids.length by omega]
theorem jJ {v k:Val} (h:zX v=true) (hk:k∈v.kids):zX k=true:=by
 rw[qBV]at h;simp only[Bool.and_eq_true,List.all_eq_true]at h;exact h.2 k hk
theorem qDY {v:Val} (h:zX v=true) (h7:v.kind=7):v.keys.length=v.kids.length/\v.keys.length<=200/\v.keys.Nodup:=by
 rw[qBV]at h
 simp only[Bool.and_eq_true,qEO,qDU,qLP,decide_eq_true_eq]at h
 obtain⟨⟨h1,⟨⟨_,h2⟩,_⟩⟩,_⟩:=h
 rw[if_pos h7]at h2
 simp[qNG]at h2
 exact⟨by omega,by omega,h2.2.2⟩
theorem vK {v:Val} (h:zX v=true) (h4:v.kind=4):zO v.num=true:=by
 rw[qBV]at h
 simp only[Bool.and_eq_true,qDU,zOB]at h
 obtain⟨⟨h1,⟨⟨⟨⟨_,h2⟩,_⟩,_⟩,_⟩⟩,_⟩:=h
 rw[if_pos h4]at h2;exact h2
mutual
def qEB (ch:Val->Val):Val->Val
 | .mk k m n t ks vs c=>ch (.mk k m n t ks (zAZ ch vs) c)
def zAZ (ch:Val->Val):List Val->List Val
 | []=>[]
 | v::vs=>qEB ch v::zAZ ch vs
end
theorem qTZ (ch:Val->Val):∀ l,zAZ ch l=l.map (qEB ch)
 | []=>by simp[zAZ]
 | v::vs=>by simp[zAZ,qTZ ch vs]
theorem zHL (ch:Val->Val) (v:Val):qEB ch v=ch (.mk v.kind v.mask v.num v.text v.keys (v.kids.map (qEB ch)) v.code):=by
 cases v;simp only[qEB,qTZ,Val.kind_mk,Val.mask_mk,Val.num_mk,Val.text_mk,Val.keys_mk,Val.kids_mk,Val.code_mk]
theorem qLR {v:Val} (h:zX v=true):v.keys.length<=200/\v.kids.length<=200:=by
 by_cases h7:v.kind=7
 ·have:=qDY h h7;omega
 rw[qBV]at h
 simp only[Bool.and_eq_true,qEO,qDU,qLP,decide_eq_true_eq]at h
 obtain⟨⟨h1,⟨⟨_,h2⟩,_⟩⟩,_⟩:=h
 rw[if_neg h7]at h2
 simp at h2
 rw[h2];simp;omega
def InM (a:Int):Prop:=0<=a/\a<18446744073709551616
def kC (a:Int):Nat:=(a % 18446744073709551616).toNat
theorem qWQ (a:Int):kC a<2 ^ 64:=by unfold kC;omega
theorem zHF {a:Int} (h:InM a):((kC a:Nat):Int)=a:=by unfold kC;unfold InM at h;omega
theorem qTR {n:Nat} (h:n<2 ^ 64):kC n=n:=by unfold kC;omega
def orM (a b:Int):Int:=((kC a ||| kC b:Nat):Int)
def wCF (a b:Int):Int:=((kC a &&& kC b:Nat):Int)
def yV (a b:Int):Int:=((kC a &&& (18446744073709551615-kC b):Nat):Int)
theorem zNV (a b:Int):kC a ||| kC b<2 ^ 64:=Nat.or_lt_two_pow (qWQ a) (qWQ b)
theorem zWU (a b:Int):kC a &&& (18446744073709551615-kC b)<2 ^ 64:=Nat.and_lt_two_pow _ (by omega)
theorem qJV (a b:Int):kC (orM a b)=kC a ||| kC b:=qTR (zNV a b)
theorem qYK {n:Nat} (h:n<2 ^ 64):IntKind.u64.wrap (n:Int)=n:=by simp[IntKind.wrap,IntKind.bits,IntKind.signed];omega
theorem zHB (a b:Int):IntKind.u64.wrap (((a % 2 ^ IntKind.u64.bits).toNat ||| (b % 2 ^ IntKind.u64.bits).toNat:Nat):Int)=orM a b:=qYK (zNV a b)
theorem zND (a b:Int):IntKind.u64.wrap (((a % 2 ^ IntKind.u64.bits).toNat &&& (2 ^ IntKind.u64.bits-1-(b % 2 ^ IntKind.u64.bits).toNat):Nat):Int)=yV a b:=qYK (zWU a b)
theorem or_comm (a b:Int):orM a b=orM b a:=by unfold orM;rw[Nat.or_comm]
theorem or_assoc (a b c:Int):orM (orM a b) c=orM a (orM b c):=by
 show((kC (orM a b) ||| kC c:Nat):Int)=((kC a ||| kC (orM b c):Nat):Int)
 rw[qJV,qJV,Nat.or_assoc]
theorem or_self {a:Int} (h:InM a):orM a a=a:=by unfold orM;rw[Nat.or_self,zHF h]
def LeM (a b:Int):Prop:=orM a b=b
theorem LeM.or_left (a b:Int):LeM a (orM a b):=by
 unfold LeM;rw[<-or_assoc]
 unfold orM;rw[qTR (zNV a a),Nat.or_self]
theorem LeM.trans {a b c:Int} (h1:LeM a b) (h2:LeM b c):LeM a c:=by
 unfold LeM at *; rw[<-h2,<-or_assoc,h1]
theorem LeM.or {a b c:Int} (h1:LeM a c) (h2:LeM b c):LeM (orM a b) c:=by
 unfold LeM at *; rw[or_assoc,h2,h1]
theorem LeM.refl {a:Int} (h:InM a):LeM a a:=or_self h
theorem LeM.and {a b:Int} (h:LeM a b) (ha:InM a):wCF b a=a:=by
 unfold LeM at h
 have h1:kC a ||| kC b=kC b:=by rw[<-qJV,h]
 unfold wCF
 have:kC b &&& kC a=kC a:=by
  rw[<-h1]
  apply Nat.eq_of_testBit_eq;intro i
  simp only[Nat.testBit_and,Nat.testBit_or]
  cases (kC a).testBit i <;> cases (kC b).testBit i <;> rfl
 rw[this,zHF ha]
theorem LeM.sub {a b:Int} (h:LeM a b):yV a b=0:=by
 unfold LeM at h
 have h1:kC a ||| kC b=kC b:=by rw[<-qJV,h]
 have hb:=qWQ b
 unfold yV
 have:kC a &&& (18446744073709551615-kC b)=0:=by
  apply Nat.eq_of_testBit_eq;intro i
  rw[show 18446744073709551615-kC b=2 ^ 64-(kC b+1) by omega]
  simp only[Nat.testBit_and,Nat.testBit_two_pow_sub_succ hb,Nat.zero_testBit]
  have h3:(kC a ||| kC b).testBit i=(kC b).testBit i:=by rw[h1]
  rw[Nat.testBit_or]at h3
  revert h3
  cases (kC a).testBit i <;> cases (kC b).testBit i <;> simp
 rw[this];rfl
def jG:Val := .mk 0 0 dc0 [] [] [] 0
@[simp] theorem zWA:jG.kind=0:=rfl
@[simp] theorem zVZ:jG.mask=0:=rfl
@[simp] theorem zYN:jG.num.neg=false:=rfl
@[simp] theorem zRV:jG.num.digits=[]:=rfl
@[simp] theorem zVI:jG.num.scale=0:=rfl
@[simp] theorem zVY:jG.text=[]:=rfl
@[simp] theorem zWC:jG.keys=[]:=rfl
@[simp] theorem zWB:jG.kids=[]:=rfl
@[simp] theorem zWD:jG.code=0:=rfl
def qZP (v:Val) (m:Int):Val := .mk v.kind m v.num v.text v.keys v.kids v.code
@[simp] theorem zYT (u:Val) (m:Int):(qZP u m).kind=u.kind:=rfl
@[simp] theorem zYS (u:Val) (m:Int):(qZP u m).mask=m:=rfl
@[simp] theorem wBL (u:Val) (m:Int):(qZP u m).num=u.num:=rfl
@[simp] theorem zYR (u:Val) (m:Int):(qZP u m).text=u.text:=rfl
@[simp] theorem zYV (u:Val) (m:Int):(qZP u m).keys=u.keys:=rfl
@[simp] theorem zYU (u:Val) (m:Int):(qZP u m).kids=u.kids:=rfl
@[simp] theorem zYW (u:Val) (m:Int):(qZP u m).code=u.code:=rfl
def qHK (v:Val) (l:List Val):Val := .mk v.kind v.mask v.num v.text v.keys l v.code
@[simp] theorem zYZ (u:Val) (m:List Val):(qHK u m).kind=u.kind:=rfl
@[simp] theorem zYY (u:Val) (m:List Val):(qHK u m).mask=u.mask:=rfl
@[simp] theorem wBM (u:Val) (m:List Val):(qHK u m).num=u.num:=rfl
@[simp] theorem zYX (u:Val) (m:List Val):(qHK u m).text=u.text:=rfl
@[simp] theorem zZB (u:Val) (m:List Val):(qHK u m).keys=u.keys:=rfl
@[simp] theorem zZA (u:Val) (m:List Val):(qHK u m).kids=m:=rfl
@[simp] theorem zZC (u:Val) (m:List Val):(qHK u m).code=u.code:=rfl
def qEV (v:Val) (m:Int):Val:=qZP v (orM v.mask m)
@[simp] theorem zWL (u:Val) (m:Int):(qEV u m).kind=u.kind:=rfl
@[simp] theorem zWK (u:Val) (m:Int):(qEV u m).mask=orM u.mask m:=rfl
@[simp] theorem zYO (u:Val) (m:Int):(qEV u m).num=u.num:=rfl
@[simp] theorem zWJ (u:Val) (m:Int):(qEV u m).text=u.text:=rfl
@[simp] theorem zWN (u:Val) (m:Int):(qEV u m).keys=u.keys:=rfl
@[simp] theorem zWM (u:Val) (m:Int):(qEV u m).kids=u.kids:=rfl
@[simp] theorem zWO (u:Val) (m:Int):(qEV u m).code=u.code:=rfl
theorem zTQ (v:Val):qEB id v=v:=by
 induction v using Val.induct with
 | h v ih =>
  rw[zHL]
  have:v.kids.map (qEB id)=v.kids:=by
   conv=>rhs;rw[<-List.map_id v.kids]
   exact List.map_congr_left fun k hk=>ih k hk
  rw[this];cases v;rfl
mutual
def zJ:Val->Int
 | .mk _ m _ _ _ vs _=>uF m vs
def uF (m:Int):List Val->Int
 | []=>m
 | v::vs=>uF (orM m (zJ v)) vs
end
theorem qRF (v:Val):zJ v=uF v.mask v.kids:=by cases v;simp only[zJ,Val.mask_mk,Val.kids_mk]
theorem qXM (l:List Val) (x:Val):∀ m,uF m (l++[x])=orM (uF m l) (zJ x):=by
 induction l with
 | nil=>intro m;simp only[List.nil_append,uF]
 | cons y l ih=>intro m;simp only[List.cons_append,uF,ih]
theorem qIW {m:Int} {l:List Val} {k:Nat} {x:Val} (h:l[k]?=some x):uF m (l.take (k+1))=orM (uF m (l.take k)) (zJ x):=by
 rw[List.take_add_one,h];exact qXM _ _ _
@[simp] theorem zZF (m:Int):uF m []=m:=by simp only[uF]
mutual
def InV:Val->Prop
 | .mk _ m _ _ _ vs _=>InM m/\zRO vs
def zRO:List Val->Prop
 | []=>True
 | v::vs=>InV v/\zRO vs
end
theorem zCX:∀ l,zRO l↔∀ v∈l,InV v
 | []=>by simp[zRO]
 | v::vs=>by simp[zRO,zCX vs]
theorem zVC (v:Val):InV v↔InM v.mask/\∀ k∈v.kids,InV k:=by cases v;simp only[InV,zCX,Val.mask_mk,Val.kids_mk]
theorem zRN {v:Val} (h:InV v):InM v.mask:=((zVC v).1 h).1
theorem qZB (v:Val):Val.sz v=1+Val.szL v.kids:=by cases v;simp only[Val.sz,Val.kids_mk]
theorem qPD (l m:List Val):Val.szL (l++m)=Val.szL l+Val.szL m:=by
 induction l with
 | nil=>simp[Val.szL]
 | cons y l ih=>simp only[List.cons_append,Val.szL,ih];omega
@[simp] theorem zSS:Val.szL []=0:=by simp only[Val.szL]
@[simp] theorem zSR (x:Val):Val.szL [x]=Val.sz x:=by simp only[Val.szL,Nat.add_zero]
theorem zWT (v:Val):1<=Val.sz v:=by rw[qZB];omega
theorem zGR:∀ l:List Val,l.length<=Val.szL l
 | []=>by simp
 | v::l=>by simp only[Val.szL,List.length_cons];have:=zGR l;have:=zWT v;omega
theorem qQL {v:Val} {n:Nat} (h:Val.sz v<=n):v.kids.length<=n:=by rw[qZB]at h;have:=zGR v.kids;omega
end Go.Proofs.YtgcbapchinideaaGreatDoor
