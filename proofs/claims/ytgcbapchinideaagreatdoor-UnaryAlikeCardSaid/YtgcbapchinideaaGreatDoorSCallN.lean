import Derived.Test.YtgcbapchinideaaGreatDoorSUnV
namespace Go.Proofs.YtgcbapchinideaaGreatDoor
open Sy Go
set_option maxRecDepth 100000
set_option maxHeartbeats 4000000
set_option linter.all false
variable {G:qR}
def qGI:List (List UInt8):=[[108,101,110,103,116,104],[107,101,121,115],[110,111,116],[116,121,112,101],[115,111,114,116],[117,110,105,113,117,101],[114,101,118,101,114,115,101],[97,100,100],[109,105,110],[109,97,120],[102,108,111,111,114],[99,101,105,108],[114,111,117,110,100],[116,111,106,115,111,110],[116,111,115,116,114,105,110,103],[116,111,110,117,109,98,101,114],[97,110,121],[97,108,108],[101,110,116,114,105,101,115],[104,97,115],[116,101,115,116],[115,116,97,114,116,115],[101,110,100,115],[106,111,105,110],[115,112,108,105,116]]
def jM (n:Nat):List UInt8:=qGI.getD (n % 25) []
theorem zLT (n:Nat):qGI[n % 25]?=some (jM n):=by
 unfold jM
 have:n % 25<qGI.length:=Nat.mod_lt _ (by decide)
 rw[List.getD_eq_getElem?_getD,List.getElem?_eq_getElem this];rfl
noncomputable def qBT (d:Dc):List UInt8:=if h:zO d=true then Classical.choose (Classical.choose_spec (qIA h)) else[]
theorem qLM {d:Dc} (h:zO d=true):∃ W,WholeP d W (qBT d):=by
 unfold qBT
 rw[dif_pos h]
 exact⟨_,Classical.choose_spec (Classical.choose_spec (qIA h))⟩
def qDQ (t a:List UInt8):List (List UInt8):=if a=[] then vD t else qIK t a
theorem zJJ (t a:List UInt8):Lib.join (qDQ t a) a=t/\(qDQ t a).length<=t.length+1/\∀ p∈qDQ t a,p.length<=t.length:=by
 unfold qDQ
 split
 ·rename_i h
  subst h
  obtain⟨r1,r2,r3⟩:=qZQ t
  have:=qPO t
  exact⟨r1,by omega,r3⟩
 rename_i h
 obtain⟨j1,_,j3,j4⟩:=qZK (s:=t) h
 exact⟨j1,j3,j4⟩
theorem zJK (hG:U8 G) (hM:qMM 0 G) (t a:List UInt8) (ht:t.length<=10000):AFn Tryz.prog G 75 [.str t,.str a] (.sl 1 ((qDQ t a).map PD.str)):=by
 unfold qDQ
 split
 ·rename_i h;subst h;exact zMG hG t (by omega)
 rename_i h;exact zMF hM t a h (by omega)
noncomputable def uI (n:Nat) (arg:List UInt8) (v:Val):Val:=match n with
 | 0=>qNW Lib.runeCountL v v.mask
 | 1=>qQM v v.mask
 | 2=>zEF v v.mask
 | 3=>wW (zAO v.kind) v.mask
 | 4=>if v.kind=6 then yE (srt leV v.kids) (zJ v) else qQ 40 (zJ v)
 | 5=>if v.kind=6 then yE (uqV (srt leV v.kids)) (zJ v) else qQ 40 (zJ v)
 | 6=>if v.kind=6 then yE v.kids.reverse v.mask else qQ 40 v.mask
 | 7=>if v.kind=6 then qSK v.kids (zJ v) else qQ 40 (zJ v)
 | 8=>if v.kind=6 then qBM (fun a b=>decide (wT a b<0)) v.kids (zJ v) else qQ 40 (zJ v)
 | 9=>if v.kind=6 then qBM (fun a b=>decide (0<wT a b)) v.kids (zJ v) else qQ 40 (zJ v)
 | 10=>if v.kind=4 then vH (zAE [102,108,111,111,114] v.num (qBT v.num)) v.mask else qQ 40 v.mask
 | 11=>if v.kind=4 then vH (zAE [99,101,105,108] v.num (qBT v.num)) v.mask else qQ 40 v.mask
 | 12=>if v.kind=4 then vH (zAE [114,111,117,110,100] v.num (qBT v.num)) v.mask else qQ 40 v.mask
 | 13=>qKA v (zJ v)
 | 14=>if v.kind=5 then wW v.text (zJ v) else qKA v (zJ v)
 | 15=>if v.kind=4 then .mk 4 v.mask v.num [] [] [] 0 else if v.kind=5 then vH (xE v.text) v.mask else qQ 40 v.mask
 | 16=>if v.kind=6 then vZ v.kids [97,110,121] (zJ v) else qQ 40 (zJ v)
 | 17=>if v.kind=6 then vZ v.kids [97,108,108] (zJ v) else qQ 40 (zJ v)
 | 18=>uE v v.mask
 | 19=>zEX arg v v.mask
 | 20=>if v.kind=5 then qSZ arg v.text v.mask else qQ 40 v.mask
 | 21=>if v.kind=5 then yT (yP v.text arg) v.mask else qQ 40 v.mask
 | 22=>if v.kind=5 then yT (qVU v.text arg) v.mask else qQ 40 v.mask
 | 23=>if v.kind=6 then qFT v.kids arg (zJ v) else qQ 40 (zJ v)
 | _=>if v.kind=5 then qFG (qDQ v.text arg) v.mask else qQ 40 v.mask
theorem zAW {v:Val} (h:zX v=true):v.text.length<=4096:=by
 rw[qBV]at h
 simp only[Bool.and_eq_true,qDU,qYY]at h
 by_cases h5:v.kind=5
 ·have:=h.1.2.1.1.2;simp[h5,qAR]at this;omega
 have:=h.1.2.1.1.2;simp[h5]at this;rw[this];simp
theorem zTT (m:Nat) (l:List (List UInt8)) (h:∀ p∈l,p.length<=m):Lib.lens l<=l.length * m:=by
 unfold Lib.lens
 induction l with
 | nil=>simp
 | cons x l ih =>
  have h1:=ih fun p hp=>h p (List.mem_cons_of_mem _ hp)
  have h2:=h x (by simp)
  simp only[List.map_cons,List.sum_cons,List.length_cons,Nat.add_mul,Nat.one_mul]at h1 ⊢
  omega
theorem zOT (l:List (List UInt8)) (sep:List UInt8) (m:Nat) (h:∀ p∈l,p.length<=m):(Lib.join l sep).length<=l.length * (m+sep.length):=by
 cases l with
 | nil=>simp[Lib.join_nil]
 | cons x r =>
  rw[Lib.join_length]
  have:=zTT m (x::r) h
  simp only[List.length_cons,Nat.add_mul,Nat.one_mul,Nat.mul_add]at this ⊢
  rw[Nat.mul_comm sep.length]
  omega
theorem qL {p:Prop} [Decidable p] {q:Prop} (h:decide p=false:=by decide):p->q:=fun x=>absurd x (of_decide_eq_false h)
theorem zQH (hG:U8 G) (hM:qMM 0 G) (n:Nat) (hn:n<25) (arg:List UInt8) (ha:arg.length<=40) (v:Val) (mv:zX v=true) (hz:Val.sz v<=10000):CallOK G (jM n) arg v (uI n arg v):=by
 have hsm:=qLR mv
 have htx:=zAW mv
 have hmk:qAH v.kids:=fun k hk=>jJ mv hk
 have hf:∀ k∈v.kids,Few k:=fun k hk=>zHX k (jJ mv hk)
 have hSM:∀ k,k∈srt leV v.kids↔k∈v.kids:=fun k=>qDP
 have hSl:(srt leV v.kids).length=v.kids.length:=vC _
 have hul:=zWP (srt leV v.kids)
 have hjo:∀ sep:List UInt8,sep.length<=40->(Lib.join (v.kids.map Val.text) sep).length<=1000000000:=fun sep hs=>by
  have:=zOT (v.kids.map Val.text) sep 4096 (fun p hp=>by obtain⟨k,hk,rfl⟩:=List.mem_map.1 hp;exact zAW (jJ mv hk))
  have h2:(v.kids.map Val.text).length * (4096+sep.length)<=200 * (4096+40):=Nat.mul_le_mul (by simpa using hsm.2) (by omega)
  omega
 have hrs:=zRI (G:=G) v.text (by omega)
 have hrl:=qPO v.text
 have hsp:=zJK (G:=G) hG hM v.text arg (by omega)
 have hspl:=(zJJ v.text arg).2.1
 match n,hn with
 | 0,_=>exact⟨fun _=>zKW Lib.runeCountL v v.mask (fun _=>⟨hrs,by omega⟩) (by omega),qL,qL,qL,qL,qL,qL,qL,qL,qL,qL,fun h=>absurd (by decide) h⟩
 | 1,_=>exact⟨qL,fun _=>zOJ v v.mask (by omega) (by omega),qL,qL,qL,qL,qL,qL,qL,qL,qL,fun h=>absurd (by decide) h⟩
 | 2,_=>exact⟨qL,qL,fun _=>rfl,qL,qL,qL,qL,qL,qL,qL,qL,fun h=>absurd (by decide) h⟩
 | 3,_=>exact⟨qL,qL,qL,fun _=>⟨zAO v.kind,zTH v.kind,rfl⟩,qL,qL,qL,qL,qL,qL,qL,fun h=>absurd (by decide) h⟩
 | 4,_=>exact⟨qL,qL,qL,qL,qL,qL,qL,qL,qL,qL,qL,fun _=>zOI arg v (zJ v) (by omega) hmk hf⟩
 | 5,_=>exact⟨qL,qL,qL,qL,qL,qL,qL,qL,qL,qL,qL,fun _=>zOG arg v (zJ v) (by omega) hmk (fun k hk=>hf k ((hSM k).1 (zMQ hk))) (by omega)⟩
 | 6,_=>exact⟨qL,qL,qL,qL,fun _=>⟨fun h=>if_neg h,fun h=>⟨zTC v.kids (by omega),by omega,by have:=qCU (G:=G) v.kids.reverse v.mask (fun k hk=>hf k (List.mem_reverse.1 hk)) (by rw[List.length_reverse];omega);rw[show uI 6 arg v=yE v.kids.reverse v.mask from if_pos h];exact this⟩⟩,qL,qL,qL,qL,qL,qL,fun h=>absurd (by decide) h⟩
 | 7,_=>exact⟨qL,qL,qL,qL,qL,qL,qL,qL,qL,qL,qL,fun _=>qNB arg v (zJ v) (by omega) (hjo [] (by simp)) (fun k hk=>jJ mv hk)⟩
 | 8,_=>exact⟨qL,qL,qL,qL,qL,qL,qL,qL,qL,qL,qL,fun _=>zTL arg v (zJ v) (by omega) hmk⟩
 | 9,_=>exact⟨qL,qL,qL,qL,qL,qL,qL,qL,qL,qL,qL,fun _=>zTM arg v (zJ v) (by omega) hmk⟩
 | 10,_ =>
  have key:jM 10=[102,108,111,111,114]\/jM 10=[99,101,105,108]\/jM 10=[114,111,117,110,100]->AFn Tryz.prog G 43 [.agg [.int .u64 v.mask],.str (jM 10),v.enc] (uI 10 arg v).enc:=fun _=>by
   by_cases h4:v.kind=4
   ·obtain⟨W,hW⟩:=qLM (vK mv h4)
    exact qAP [102,108,111,111,114] v v.mask W (qBT v.num) (fun _=>⟨vK mv h4,hW⟩)
   exact qAP [102,108,111,111,114] v v.mask [] (qBT v.num) (fun h=>absurd h h4)
  exact⟨qL,qL,qL,qL,qL,qL,key,qL,qL,qL,qL,fun h=>absurd (by decide) h⟩
 | 11,_ =>
  have key:jM 11=[102,108,111,111,114]\/jM 11=[99,101,105,108]\/jM 11=[114,111,117,110,100]->AFn Tryz.prog G 43 [.agg [.int .u64 v.mask],.str (jM 11),v.enc] (uI 11 arg v).enc:=fun _=>by
   by_cases h4:v.kind=4
   ·obtain⟨W,hW⟩:=qLM (vK mv h4)
    exact qAP [99,101,105,108] v v.mask W (qBT v.num) (fun _=>⟨vK mv h4,hW⟩)
   exact qAP [99,101,105,108] v v.mask [] (qBT v.num) (fun h=>absurd h h4)
  exact⟨qL,qL,qL,qL,qL,qL,key,qL,qL,qL,qL,fun h=>absurd (by decide) h⟩
 | 12,_ =>
  have key:jM 12=[102,108,111,111,114]\/jM 12=[99,101,105,108]\/jM 12=[114,111,117,110,100]->AFn Tryz.prog G 43 [.agg [.int .u64 v.mask],.str (jM 12),v.enc] (uI 12 arg v).enc:=fun _=>by
   by_cases h4:v.kind=4
   ·obtain⟨W,hW⟩:=qLM (vK mv h4)
    exact qAP [114,111,117,110,100] v v.mask W (qBT v.num) (fun _=>⟨vK mv h4,hW⟩)
   exact qAP [114,111,117,110,100] v v.mask [] (qBT v.num) (fun h=>absurd h h4)
  exact⟨qL,qL,qL,qL,qL,qL,key,qL,qL,qL,qL,fun h=>absurd (by decide) h⟩
 | 13,_=>exact⟨qL,qL,qL,qL,qL,qL,qL,qL,qL,qL,fun _=>zAQ v (zJ v) mv hz,fun h=>absurd (by decide) h⟩
 | 14,_=>exact⟨qL,qL,qL,qL,qL,qL,qL,qL,qL,fun _=>⟨fun h=>if_pos h,fun h=>by rw[show uI 14 arg v=qKA v (zJ v) from if_neg h];exact zAQ v (zJ v) mv hz⟩,qL,fun h=>absurd (by decide) h⟩
 | 15,_=>exact⟨qL,qL,qL,qL,qL,fun _=>⟨fun h=>if_pos h,fun h=>by rw[show uI 15 arg v=(if v.kind=5 then vH (xE v.text) v.mask else qQ 40 v.mask) from if_neg h];exact zKO arg v v.mask (fun _=>by omega)⟩,qL,qL,qL,qL,qL,fun h=>absurd (by decide) h⟩
 | 16,_=>exact⟨qL,qL,qL,qL,qL,qL,qL,qL,qL,qL,qL,fun _=>qNA [97,110,121] arg v (zJ v) (by decide) (by omega)⟩
 | 17,_=>exact⟨qL,qL,qL,qL,qL,qL,qL,qL,qL,qL,qL,fun _=>qNA [97,108,108] arg v (zJ v) (by decide) (by omega)⟩
 | 18,_=>exact⟨qL,qL,qL,qL,qL,qL,qL,fun _=>zAU arg v v.mask (fun h=>(qDY mv h).1) (by omega) hf,qL,qL,qL,fun h=>absurd (by decide) h⟩
 | 19,_=>exact⟨qL,qL,qL,qL,qL,qL,qL,fun _=>zTN arg v v.mask,qL,qL,qL,fun h=>absurd (by decide) h⟩
 | 20,_=>exact⟨qL,qL,qL,qL,qL,qL,qL,qL,fun _=>zOH arg v v.mask (by omega) (by omega),qL,qL,fun h=>absurd (by decide) h⟩
 | 21,_=>exact⟨qL,qL,qL,qL,qL,qL,qL,qL,fun _=>zKP arg v v.mask,qL,qL,fun h=>absurd (by decide) h⟩
 | 22,_=>exact⟨qL,qL,qL,qL,qL,qL,qL,qL,fun _=>zTO arg v v.mask (by omega) (by omega),qL,qL,fun h=>absurd (by decide) h⟩
 | 23,_=>exact⟨qL,qL,qL,qL,qL,qL,qL,qL,qL,qL,qL,fun _=>qWV arg v (zJ v) (by omega) (hjo arg ha)⟩
 | 24,_=>exact⟨qL,qL,qL,qL,qL,qL,qL,qL,fun _=>qTT arg (qDQ v.text arg) v v.mask (fun _=>hsp) (by omega),qL,qL,fun h=>absurd (by decide) h⟩
 | n+25,h=>exact absurd h (by omega)
theorem qVD (hG:U8 G) (hM:qMM 0 G) (n:Nat) (hn:n<25) (arg:List UInt8) (ha:arg.length<=40) (v:Val) (mv:zX v=true) (hz:Val.sz v<=10000):AFn Tryz.prog G 11 [.str (jM n),.str arg,v.enc] (uI n arg v).enc :=
 qXN (jM n) arg v (uI n arg v) (zQH hG hM n hn arg ha v mv hz)
end Go.Proofs.YtgcbapchinideaaGreatDoor
