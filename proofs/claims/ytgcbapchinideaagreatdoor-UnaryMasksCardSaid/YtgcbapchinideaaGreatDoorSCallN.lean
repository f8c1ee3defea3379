import Derived.Test.YtgcbapchinideaaGreatDoorSUnV
set_option linter.all false
namespace Go.Proofs.YtgcbapchinideaaGreatDoor
open Sy Go
set_option maxRecDepth 100000
set_option maxHeartbeats 4000000
variable {G:qT}
def qIA:List (List UInt8):=[[108,101,110,103,116,104],[107,101,121,115],[110,111,116],[116,121,112,101],[115,111,114,116],[117,110,105,113,117,101],[114,101,118,101,114,115,101],[97,100,100],[109,105,110],[109,97,120],[102,108,111,111,114],[99,101,105,108],[114,111,117,110,100],[116,111,106,115,111,110],[116,111,115,116,114,105,110,103],[116,111,110,117,109,98,101,114],[97,110,121],[97,108,108],[101,110,116,114,105,101,115],[104,97,115],[116,101,115,116],[115,116,97,114,116,115],[101,110,100,115],[106,111,105,110],[115,112,108,105,116]]
def xE (n:Nat):List UInt8:=qIA.getD (n % 25) []
theorem zQC (n:Nat):qIA[n % 25]?=some (xE n):=by
 unfold xE;have:n % 25<qIA.length:=eQ _ (by decide);rw[bJ,cI this];rfl
noncomputable def qDJ (d:Dc):List UInt8:=if h:zJ d=true then Classical.choose (Classical.choose_spec (qJQ h)) else[]
theorem qNP {d:Dc} (h:zJ d=true):∃ W,WholeP d W (qDJ d):=by
 unfold qDJ;rw[dif_pos h];exact⟨_,Classical.choose_spec (Classical.choose_spec (qJQ h))⟩
def qCG (t a:List UInt8):List (List UInt8):=if a=[] then vP t else qKB t a
theorem qVU (t a:List UInt8):Lib.join (qCG t a) a=t/\(qCG t a).length<=t.length+1/\∀ p∈qCG t a,p.length<=t.length:=by
 unfold qCG;split
 ·rename_i h;subst h;obtain⟨r1,r2,r3⟩:=zCT t;have:=qLK t;exact⟨r1,by omega,r3⟩
 rename_i h;obtain⟨j1,_,j3,j4⟩:=zCM (s:=t) h;exact⟨j1,j3,j4⟩
theorem zNK (hG:U8 G) (hM:qOP 0 G) (t a:List UInt8) (ht:t.length<=10000):AFn Tryz.prog G 75 [.str t,.str a] (.sl 1 ((qCG t a).map PD.str)):=by
 unfold qCG;split
 ·rename_i h;subst h;exact zQT hG t (by omega)
 rename_i h;exact zQS hM t a h (by omega)
noncomputable def vL (n:Nat) (arg:List UInt8) (v:Val):Val:=match n with
 | 0=>qLZ Lib.runeCountL v v.mask
 | 1=>qMB v v.mask
 | 2=>qZS v v.mask
 | 3=>wM (qWL v.kind) v.mask
 | 4=>if v.kind=6 then yJ (srt leV v.kids) (qX v) else qR 40 (qX v)
 | 5=>if v.kind=6 then yJ (uqV (srt leV v.kids)) (qX v) else qR 40 (qX v)
 | 6=>if v.kind=6 then yJ v.kids.reverse v.mask else qR 40 v.mask
 | 7=>if v.kind=6 then qQD v.kids (qX v) else qR 40 (qX v)
 | 8=>if v.kind=6 then vM (fun a b=>decide (wT a b<0)) v.kids (qX v) else qR 40 (qX v)
 | 9=>if v.kind=6 then vM (fun a b=>decide (0<wT a b)) v.kids (qX v) else qR 40 (qX v)
 | 10=>if v.kind=4 then xJ (qSR [102,108,111,111,114] v.num (qDJ v.num)) v.mask else qR 40 v.mask
 | 11=>if v.kind=4 then xJ (qSR [99,101,105,108] v.num (qDJ v.num)) v.mask else qR 40 v.mask
 | 12=>if v.kind=4 then xJ (qSR [114,111,117,110,100] v.num (qDJ v.num)) v.mask else qR 40 v.mask
 | 13=>qCS v (qX v)
 | 14=>if v.kind=5 then wM v.text (qX v) else qCS v (qX v)
 | 15=>if v.kind=4 then .mk 4 v.mask v.num [] [] [] 0 else if v.kind=5 then xJ (kR v.text) v.mask else qR 40 v.mask
 | 16=>if v.kind=6 then jE v.kids [97,110,121] (qX v) else qR 40 (qX v)
 | 17=>if v.kind=6 then jE v.kids [97,108,108] (qX v) else qR 40 (qX v)
 | 18=>qAJ v v.mask
 | 19=>zAI arg v v.mask
 | 20=>if v.kind=5 then qOV arg v.text v.mask else qR 40 v.mask
 | 21=>if v.kind=5 then yH (kG v.text arg) v.mask else qR 40 v.mask
 | 22=>if v.kind=5 then yH (qYT v.text arg) v.mask else qR 40 v.mask
 | 23=>if v.kind=6 then qBD v.kids arg (qX v) else qR 40 (qX v)
 | _=>if v.kind=5 then qFK (qCG v.text arg) v.mask else qR 40 v.mask
theorem qSY {v:Val} (h:qU v=true):v.text.length<=4096:=by
 rw[yB]at h;simp only[bI,yT,jY]at h;by_cases h5:v.kind=5
 ·have:=h.1.2.1.1.2;simp[h5,kJ]at this;omega
 have:=h.1.2.1.1.2;simp[h5]at this;rw[this];simp
theorem zYG (m:Nat) (l:List (List UInt8)) (h:∀ p∈l,p.length<=m):Lib.lens l<=l.length * m:=by
 unfold Lib.lens;induction l with
 | nil=>simp
 | cons x l ih =>
  have h1:=ih fun p hp=>h p (cZ _ hp);have h2:=h x (by simp);simp only[bA,List.sum_cons,cA,dC,eI]at h1 ⊢;omega
theorem zTM (l:List (List UInt8)) (sep:List UInt8) (m:Nat) (h:∀ p∈l,p.length<=m):(Lib.join l sep).length<=l.length * (m+sep.length):=by
 cases l with
 | nil=>simp[Lib.join_nil]
 | cons x r =>
  rw[Lib.join_length];have:=zYG m (x::r) h;simp only[cA,dC,eI,eW]at this ⊢;rw[fK sep.length];omega
theorem qL {p:Prop} [Decidable p] {q:Prop} (h:decide p=false:=by decide):p->q:=fun x=>absurd x (of_decide_eq_false h)
theorem zUW (hG:U8 G) (hM:qOP 0 G) (n:Nat) (hn:n<25) (arg:List UInt8) (ha:arg.length<=40) (v:Val) (mv:qU v=true) (hz:iR v<=10000):CallOK G (xE n) arg v (vL n arg v):=by
 have hsm:=qCA mv;have htx:=qSY mv;have hmk:qBP v.kids:=fun k hk=>yZ mv hk;have hf:∀ k∈v.kids,Few k:=fun k hk=>zLR k (yZ mv hk);have hSM:∀ k,k∈srt leV v.kids↔k∈v.kids:=fun k=>uD;have hSl:(srt leV v.kids).length=v.kids.length:=uE _;have hul:=wBF (srt leV v.kids);have hjo:∀ sep:List UInt8,sep.length<=40->(Lib.join (v.kids.map Val.text) sep).length<=1000000000:=fun sep hs=>by
  have:=zTM (v.kids.map Val.text) sep 4096 (fun p hp=>by obtain⟨k,hk,rfl⟩:=cO.1 hp;exact qSY (yZ mv hk));have h2:(v.kids.map Val.text).length * (4096+sep.length)<=200 * (4096+40):=Nat.mul_le_mul (by simpa using hsm.2) (by omega);omega
 have hrs:=zVV (G:=G) v.text (by omega);have hrl:=qLK v.text;have hsp:=zNK (G:=G) hG hM v.text arg (by omega);have hspl:=(qVU v.text arg).2.1;match n,hn with
 | 0,_=>exact⟨fun _=>zPA Lib.runeCountL v v.mask (fun _=>⟨hrs,by omega⟩) (by omega),qL,qL,qL,qL,qL,qL,qL,qL,qL,qL,fun h=>absurd (by decide) h⟩
 | 1,_=>exact⟨qL,fun _=>zTB v v.mask (by omega) (by omega),qL,qL,qL,qL,qL,qL,qL,qL,qL,fun h=>absurd (by decide) h⟩
 | 2,_=>exact⟨qL,qL,fun _=>rfl,qL,qL,qL,qL,qL,qL,qL,qL,fun h=>absurd (by decide) h⟩
 | 3,_=>exact⟨qL,qL,qL,fun _=>⟨qWL v.kind,zXV v.kind,rfl⟩,qL,qL,qL,qL,qL,qL,qL,fun h=>absurd (by decide) h⟩
 | 4,_=>exact⟨qL,qL,qL,qL,qL,qL,qL,qL,qL,qL,qL,fun _=>zTA arg v (qX v) (by omega) hmk hf⟩
 | 5,_=>exact⟨qL,qL,qL,qL,qL,qL,qL,qL,qL,qL,qL,fun _=>zSY arg v (qX v) (by omega) hmk (fun k hk=>hf k ((hSM k).1 (zGT hk))) (by omega)⟩
 | 6,_=>exact⟨qL,qL,qL,qL,fun _=>⟨fun h=>bD h,fun h=>⟨zXP v.kids (by omega),by omega,by have:=qEP (G:=G) v.kids.reverse v.mask (fun k hk=>hf k (iB.1 hk)) (by rw[gE];omega);rw[show vL 6 arg v=yJ v.kids.reverse v.mask from bE h];exact this⟩⟩,qL,qL,qL,qL,qL,qL,fun h=>absurd (by decide) h⟩
 | 7,_=>exact⟨qL,qL,qL,qL,qL,qL,qL,qL,qL,qL,qL,fun _=>qPG arg v (qX v) (by omega) (hjo [] (by simp)) (fun k hk=>yZ mv hk)⟩
 | 8,_=>exact⟨qL,qL,qL,qL,qL,qL,qL,qL,qL,qL,qL,fun _=>zXZ arg v (qX v) (by omega) hmk⟩
 | 9,_=>exact⟨qL,qL,qL,qL,qL,qL,qL,qL,qL,qL,qL,fun _=>zYA arg v (qX v) (by omega) hmk⟩
 | 10,_ =>
  have key:xE 10=[102,108,111,111,114]\/xE 10=[99,101,105,108]\/xE 10=[114,111,117,110,100]->AFn Tryz.prog G 43 [.agg [.int .u64 v.mask],.str (xE 10),v.enc] (vL 10 arg v).enc:=fun _=>by
   by_cases h4:v.kind=4
   ·obtain⟨W,hW⟩:=qNP (xP mv h4);exact qBZ [102,108,111,111,114] v v.mask W (qDJ v.num) (fun _=>⟨xP mv h4,hW⟩)
   exact qBZ [102,108,111,111,114] v v.mask [] (qDJ v.num) (fun h=>absurd h h4)
  exact⟨qL,qL,qL,qL,qL,qL,key,qL,qL,qL,qL,fun h=>absurd (by decide) h⟩
 | 11,_ =>
  have key:xE 11=[102,108,111,111,114]\/xE 11=[99,101,105,108]\/xE 11=[114,111,117,110,100]->AFn Tryz.prog G 43 [.agg [.int .u64 v.mask],.str (xE 11),v.enc] (vL 11 arg v).enc:=fun _=>by
   by_cases h4:v.kind=4
   ·obtain⟨W,hW⟩:=qNP (xP mv h4);exact qBZ [99,101,105,108] v v.mask W (qDJ v.num) (fun _=>⟨xP mv h4,hW⟩)
   exact qBZ [99,101,105,108] v v.mask [] (qDJ v.num) (fun h=>absurd h h4)
  exact⟨qL,qL,qL,qL,qL,qL,key,qL,qL,qL,qL,fun h=>absurd (by decide) h⟩
 | 12,_ =>
  have key:xE 12=[102,108,111,111,114]\/xE 12=[99,101,105,108]\/xE 12=[114,111,117,110,100]->AFn Tryz.prog G 43 [.agg [.int .u64 v.mask],.str (xE 12),v.enc] (vL 12 arg v).enc:=fun _=>by
   by_cases h4:v.kind=4
   ·obtain⟨W,hW⟩:=qNP (xP mv h4);exact qBZ [114,111,117,110,100] v v.mask W (qDJ v.num) (fun _=>⟨xP mv h4,hW⟩)
   exact qBZ [114,111,117,110,100] v v.mask [] (qDJ v.num) (fun h=>absurd h h4)
  exact⟨qL,qL,qL,qL,qL,qL,key,qL,qL,qL,qL,fun h=>absurd (by decide) h⟩
 | 13,_=>exact⟨qL,qL,qL,qL,qL,qL,qL,qL,qL,qL,fun _=>zDU v (qX v) mv hz,fun h=>absurd (by decide) h⟩
 | 14,_=>exact⟨qL,qL,qL,qL,qL,qL,qL,qL,qL,fun _=>⟨fun h=>bE h,fun h=>by rw[show vL 14 arg v=qCS v (qX v) from bD h];exact zDU v (qX v) mv hz⟩,qL,fun h=>absurd (by decide) h⟩
 | 15,_=>exact⟨qL,qL,qL,qL,qL,fun _=>⟨fun h=>bE h,fun h=>by rw[show vL 15 arg v=(if v.kind=5 then xJ (kR v.text) v.mask else qR 40 v.mask) from bD h];exact zOS arg v v.mask (fun _=>by omega)⟩,qL,qL,qL,qL,qL,fun h=>absurd (by decide) h⟩
 | 16,_=>exact⟨qL,qL,qL,qL,qL,qL,qL,qL,qL,qL,qL,fun _=>qPF [97,110,121] arg v (qX v) (by decide) (by omega)⟩
 | 17,_=>exact⟨qL,qL,qL,qL,qL,qL,qL,qL,qL,qL,qL,fun _=>qPF [97,108,108] arg v (qX v) (by decide) (by omega)⟩
 | 18,_=>exact⟨qL,qL,qL,qL,qL,qL,qL,fun _=>zDY arg v v.mask (fun h=>(qFU mv h).1) (by omega) hf,qL,qL,qL,fun h=>absurd (by decide) h⟩
 | 19,_=>exact⟨qL,qL,qL,qL,qL,qL,qL,fun _=>zYB arg v v.mask,qL,qL,qL,fun h=>absurd (by decide) h⟩
 | 20,_=>exact⟨qL,qL,qL,qL,qL,qL,qL,qL,fun _=>zSZ arg v v.mask (by omega) (by omega),qL,qL,fun h=>absurd (by decide) h⟩
 | 21,_=>exact⟨qL,qL,qL,qL,qL,qL,qL,qL,fun _=>zOT arg v v.mask,qL,qL,fun h=>absurd (by decide) h⟩
 | 22,_=>exact⟨qL,qL,qL,qL,qL,qL,qL,qL,fun _=>zYC arg v v.mask (by omega) (by omega),qL,qL,fun h=>absurd (by decide) h⟩
 | 23,_=>exact⟨qL,qL,qL,qL,qL,qL,qL,qL,qL,qL,qL,fun _=>qZZ arg v (qX v) (by omega) (hjo arg ha)⟩
 | 24,_=>exact⟨qL,qL,qL,qL,qL,qL,qL,qL,fun _=>qWM arg (qCG v.text arg) v v.mask (fun _=>hsp) (by omega),qL,qL,fun h=>absurd (by decide) h⟩
 | n+25,h=>exact absurd h (by omega)
theorem qXZ (hG:U8 G) (hM:qOP 0 G) (n:Nat) (hn:n<25) (arg:List UInt8) (ha:arg.length<=40) (v:Val) (mv:qU v=true) (hz:iR v<=10000):AFn Tryz.prog G 11 [.str (xE n),.str arg,v.enc] (vL n arg v).enc :=
 zAR (xE n) arg v (vL n arg v) (zUW hG hM n hn arg ha v mv hz)
end Go.Proofs.YtgcbapchinideaaGreatDoor
