import Derived.Test.YtlmedakhioiahaaGreatDoorSReadOK
import Derived.Test.YtlmedakhioiahaaGreatDoorSTexts21
import Derived.Test.YtlmedakhioiahaaGreatDoorSCutV
import Derived.Test.YtlmedakhioiahaaGreatDoorSArith
namespace Go.Proofs.YtlmedakhioiahaaGreatDoor
open Sy Go
set_option maxRecDepth 100000
set_option linter.unusedSimpArgs false
set_option linter.unusedVariables false
theorem qYU (b:UInt8):kN [b]=b.toNat-48:=by rw [qBQ]; simp [kN]
theorem qWO (u:Nat):kN (kL u)=u:=by
 induction u using Nat.strongRecOn with
 | _ u ih =>
  rcases Nat.eq_zero_or_pos u with h | h
  ·subst h; rw [uJ]; rfl
  rw [qEQ h,qPO,ih (u / 10) (by omega),qYU]
  simp only [List.length_singleton,UInt8.toNat_ofNat']
  omega
theorem zDZ {n:Int} (h0 : -9223372036854775808≤n) (h1:n≤9223372036854775807):vB n=if zB (kL n.natAbs)=[] then ⟨false,[48],0⟩ else ⟨decide (n<0),zB (kL n.natAbs),0⟩:=by
 have hl:=qBC 20 n.natAbs (by omega)
 have hsl:(zB (kL n.natAbs)).length≤20:=Nat.le_trans (List.dropWhile_sublist _).length_le hl
 have ht:kX (zB (kL n.natAbs)) 0=(zB (kL n.natAbs),0):=rfl
 unfold vB yH
 rw [ht]
 by_cases h:zB (kL n.natAbs)=[]
 ·rw [if_pos h,if_pos h]
 rw [if_neg h,if_neg h,if_neg (by simp only; omega)]; rfl
theorem qWM {n:Int} (h0 : -9223372036854775808≤n) (h1:n≤9223372036854775807):kB (vB n)=n∧(vB n).scale=0∧∀ k,1≤k→n.natAbs<10 ^ k→(vB n).digits.length≤k:=by
 have hv:=qLK (kL n.natAbs)
 rw [qWO] at hv
 have hsl:(zB (kL n.natAbs)).length≤(kL n.natAbs).length:=(List.dropWhile_sublist _).length_le
 rw [zDZ h0 h1]
 split
 ·rename_i hs
  rw [hs] at hv
  have hv:(0:Nat)=n.natAbs:=hv
  refine ⟨?_,rfl,fun k hk _=>hk⟩
  show ((kN [48]:Nat):Int)=n
  rw [show kN [48]=0 from rfl]; omega
 refine ⟨?_,rfl,fun k _ hk=>Nat.le_trans hsl (qBC k _ hk)⟩
 unfold kB
 simp only [hv,decide_eq_true_eq]
 split <;> omega
theorem qWL {n:Int} (h0 : -9223372036854775808≤n) (h1:n≤9223372036854775807):(inB n=true→yK (xW n)=(n,true))∧(inB n=false→(yK (xW n)).2=false):=by
 obtain ⟨w1,w2,w3⟩:=qWM h0 h1
 have hM:yK (xW n)=if (4:Int)=4∧(vB n).scale=0∧(vB n).digits.length≤15 then (kB (vB n),inB (kB (vB n))) else (0,false):=rfl
 rw [hM,w1]
 constructor
 ·intro hb
  have hn:n.natAbs<10 ^ 13:=by
   unfold inB at hb
   simp only [Bool.and_eq_true,decide_eq_true_eq] at hb
   omega
  rw [if_pos ⟨rfl,w2,Nat.le_trans (w3 13 (by omega) hn) (by omega)⟩,hb]
 intro hb
 split
 ·exact hb
 rfl
theorem qGT {j:Jb} {x:Val} (h:x∈zC j):(∃ s,x=qAM s)∨∃ n,x=xW n:=by
 simp only [zC,List.mem_cons,List.not_mem_nil,or_false] at h
 rcases h with h | h | h | h | h | h | h | h
 ·exact .inl ⟨_,h⟩
 ·exact .inl ⟨_,h⟩
 ·exact .inl ⟨_,h⟩
 ·exact .inl ⟨_,h⟩
 ·exact .inr ⟨_,h⟩
 ·exact .inr ⟨_,h⟩
 ·exact .inr ⟨_,h⟩
 exact .inr ⟨_,h⟩
theorem uV {x:Val} (h:(∃ s,x=qAM s)∨∃ n,x=xW n):yE x=x∧Val.sz x=1∧qBD x=1∧xU x=false:=by
 rcases h with ⟨s,rfl⟩ | ⟨n,rfl⟩
 ·refine ⟨?_, ?_, ?_, ?_⟩
  ·rw [wW]; rfl
  ·rw [qGL]; rfl
  ·rw [qCB]; rfl
  rw [uR]; rfl
 refine ⟨?_, ?_, ?_, ?_⟩
 ·rw [wW]; rfl
 ·rw [qGL]; rfl
 ·rw [qCB]; rfl
 rw [uR]; rfl
def mkO (ks:List (List UInt8)) (vs:List Val):Val := .mk 7 0 dc0 [] ks vs 0
theorem qPX:∀ l:List Val,(∀ x∈l,Val.sz x=1)→Val.szL l=l.length
 | [],_=>rfl
 | x::l,h=>by simp only [Val.szL,List.length_cons]; rw [h x (by simp),qPX l fun y hy=>h y (by simp [hy])]; omega
theorem qLX {ks : List (List UInt8)} {vs : List Val} (hk : yZ ks = true) (hl : ks.length = vs.length) (h8 : vs.length ≤ 8) (hm : ∀ x ∈ vs, zU x = true) (hx : ∀ x ∈ vs, (∃ s, x = qAM s) ∨ ∃ n, x = xW n) :
  zU (mkO ks vs)=true∧xU (mkO ks vs)=false∧yE (mkO ks vs)=mkO ks vs∧Val.sz (mkO ks vs)≤9∧qBD (mkO ks vs)≤2:=by
 refine ⟨?_, ?_, ?_, ?_, ?_⟩
 ·refine qJJ ⟨(show (1:Int)≤7 by decide),(show (7:Int)≤8 by decide),(show vs.length≤200 by omega)⟩ ?_ ?_ ?_ ?_ ?_ ?_ ?_ ?_ ?_
  ·exact ⟨fun h=>absurd h (show ¬ (7:Int)=8 by decide),fun h=>absurd rfl h⟩
  ·exact fun h=>absurd h (show ¬ (7:Int)=4 by decide)
  ·exact fun _=>rfl
  ·exact fun h=>absurd h (show ¬ (7:Int)=5 by decide)
  ·exact fun _=>rfl
  ·exact fun _=>⟨hl,hk⟩
  ·exact fun h=>absurd rfl h
  ·exact .inr (.inr rfl)
  exact fun k hk=>hm k hk
 ·rw [uR,Bool.or_eq_false_iff]
  refine ⟨rfl, ?_⟩
  rw [List.any_eq_false]
  intro x hx'
  rw [(uV (hx x hx')).2.2.2]; exact Bool.false_ne_true
 ·rw [wW]
  show (.mk 7 0 dc0 [] ks (vs.map yE) 0:Val) = .mk 7 0 dc0 [] ks vs 0
  have:vs.map yE=vs:=by
   conv=>rhs; rw [← List.map_id vs]
   exact List.map_congr_left fun x h=>(uV (hx x h)).1
  rw [this]
 ·rw [qGL]
  show 1+Val.szL vs≤9
  rw [qPX vs fun x h=>(uV (hx x h)).2.1]; omega
 rw [qCB]
 have:vD 0 vs≤1:=zEG (by omega) fun x h=>Nat.le_of_eq (uV (hx x h)).2.2.1
 show vD 0 vs+1≤2
 omega
theorem zDM {v : Val} (hm : zU v = true) (hp : xU v = false) (k : v.kind = 7) (hk0 : v.kids ≠ []) {n : Nat} {ws : List UInt8} {st : RS} {d : Nat} {rest : List UInt8} (hl : st.left = ws ++ (qF v ++ rest)) (hw : ws.all wC = true) (hb : st.bad = false) (hn : 2 * (qF v).length ≤ n) :
  qN n st d=(⟨rest,st.nodes+Val.sz v,false,st.deep || decide (12<d+qBD v-1),st.big || decide (400<st.nodes+Val.sz v)⟩,yE v):=by
 obtain ⟨hcode,hkl,hc⟩:=uD hm (qED hp)
 have ihk:∀ k∈v.kids,RB k:=fun k hk=>qFN k (vJ hm hk) (qEE hp hk)
 obtain ⟨b0,t0,e0,hb0⟩:=xT hm
 obtain ⟨n,rfl⟩:∃ k,n=k+1:=⟨n-1,by rw [e0] at hn; simp at hn; omega⟩
 rw [qGL,qCB]
 rcases hc with ⟨k',h1,h2,h3,h4⟩ | ⟨k',h1,h2,h3,h4⟩ | ⟨k',h1,h2,h3,h4⟩ | ⟨k',h1,h2,h3,h4⟩ | ⟨k',h1,h2,h3,h4⟩ | ⟨k',h1,h2,h3⟩ | ⟨k',h1,h2,h3,h4⟩
 ·omega
 ·omega
 ·omega
 ·omega
 ·omega
 ·omega
 rw [vP hcode k h1 h2 rfl]
 rw [qNT k] at hl hn
 rw [show ws++([123]++Lib.join (wI v.keys (v.kids.map qF)) [44]++[125]++rest)=ws++123::(Lib.join (wI v.keys (v.kids.map qF)) [44]++125::rest) by simp] at hl
 have he:=jZ d hl hw (by decide)
 simp only [qN,he,qCU]
 rw [if_neg (by decide),if_pos (by decide)]
 simp only [qT,List.drop_succ_cons,List.drop_zero]
 have hkw:(∀ s∈v.keys,yV s=true)∧v.keys.Nodup:=by
  unfold yZ at h4
  simp only [Bool.and_eq_true,List.all_eq_true,decide_eq_true_eq] at h4
  exact h4
 obtain ⟨b, t, e, p1, p2, p3⟩ := uH (l := wI v.keys (v.kids.map qF)) (by
   intro e0
   have:=congrArg List.length e0
   simp [wI,h3] at this
   exact hk0 this) (125::rest) (fun b=>wC b=false∧b≠93∧b≠125) (by
  intro s hs
  obtain ⟨i,hi,rfl⟩:=List.mem_iff_getElem.1 hs
  simp only [wI,List.getElem_zipWith]
  exact ⟨34,_,rfl,by decide⟩)
 rw [qBR (ws:=[]) (w:=125) e rfl p1 p3]
 simp only [Bool.false_eq_true,if_false]
 rw [qQP v.kids v.keys h3 hk0 ihk hkw.1 n ⟨b::t,st.nodes+1,st.bad,st.deep || decide (12<d),st.big || decide (400<st.nodes+1)⟩ (d+1) 1 [] [] rest (by simpa using hkw.2) e.symm hb (by omega) (by simp only [List.length_append,List.length_cons,List.length_nil] at hn; omega)]
 have hd:1≤vD 0 v.kids:=by
  cases hkk:v.kids with
  | nil=>exact absurd hkk hk0
  | cons a l=>rw [uK]; have:=qER a; omega
 refine Prod.ext ?_ (by simp)
 simp only [RS.mk.injEq,true_and]
 exact ⟨by omega,qDI _ hd,qFV _⟩
theorem zDL {v : Val} (hm : zU v = true) (hp : xU v = false) (h7 : v.kind = 7) (hk0 : v.kids ≠ []) (hd : qBD v ≤ 12) (hs : Val.sz v ≤ 400) {ws rest : List UInt8} (hw : ws.all wC = true) :
  kI (ws++(qF v++rest))=(yE v,((ws.length+(qF v).length:Nat):Int),0):=by
 unfold kI
 rw [zDM hm hp h7 hk0 (n:=2 * (ws++(qF v++rest)).length+2) (ws:=ws) (st:=⟨ws++(qF v++rest),0,false,false,false⟩) (d:=1) (rest:=rest) rfl hw rfl (by simp only [List.length_append]; omega)]
 simp only [Bool.false_or,Nat.zero_add,Nat.add_sub_cancel_left,Bool.false_eq_true,if_false,decide_eq_true_eq]
 rw [if_neg (by omega),if_neg (by omega)]
 simp only [List.length_append]
 rw [show ((ws.length+((qF v).length+rest.length):Nat):Int)-(rest.length:Nat)=((ws.length+(qF v).length:Nat):Int) by omega]
theorem qWX {v : Val} (hm : zU v = true) (hp : xU v = false) (h7 : v.kind = 7) (hk0 : v.kids ≠ []) (hd : qBD v ≤ 12) (hs : Val.sz v ≤ 400) (hb : yE v = v) {ws rest : List UInt8} (hw : ws.all wC = true) :
  uB (ws++(qF v++rest))=if rest.all wC=true∧v.keys.length=8 then (match kZ v 8 with | some j=>((j,0):Jb × Int) | none=>(jb0,240)) else (jb0,240):=by
 have ho:=zDL hm hp h7 hk0 hd hs (rest:=rest) hw
 rw [hb] at ho
 have hdr:(ws++(qF v++rest)).drop ((ws.length+(qF v).length:Nat):Int).toNat=rest:=by
  rw [Int.toNat_natCast,← List.append_assoc,List.drop_append_of_le_length (by simp),List.drop_of_length_le (by simp),List.nil_append]
 unfold uB
 rw [ho]
 simp only
 rw [hdr,show zEN=[32,9,10,13] from rfl]
 have ht:=qZG rest
 by_cases h:rest.all wC=true∧v.keys.length=8
 ·rw [if_pos h,if_neg (by
   rintro (h1 | h1 | h1 | h1)
   ·exact h1 rfl
   ·exact h1 (ht.2 h.1)
   ·exact h1 h7
   exact h1 h.2)]
  cases kZ v 8 <;> rfl
 rw [if_neg h,if_pos]
 by_cases h1:rest.all wC=true
 ·exact .inr (.inr (.inr fun h2=>h ⟨h1,h2⟩))
 exact .inr (.inl fun h2=>h1 (ht.1 h2))
theorem zGH {q j:Jb} (h:∀ f,f<4→wG q f=wG j f∧yP q f=yP j f):q=j:=by
 have h0:=h 0 (by omega)
 have h1:=h 1 (by omega)
 have h2:=h 2 (by omega)
 have h3:=h 3 (by omega)
 obtain ⟨p,f,i,n,a,b,c,d⟩:=q
 obtain ⟨p',f',i',n',a',b',c',d'⟩:=j
 simp only [wG,yP,List.getD_cons_zero,List.getD_cons_succ] at h0 h1 h2 h3
 rw [h0.1,h1.1,h2.1,h3.1,h0.2,h1.2,h2.2,h3.2]
def xI (j:Jb) (k:Nat):Val:=mkO (wR.drop k++wR.take k) ((zC j).drop k++(zC j).take k)
def qME (j:Jb) (k:Nat):Val:=mkO ((wR.drop k++wR.take k).drop 1) (((zC j).drop k++(zC j).take k).drop 1)
theorem qZM (j:Jb):xI j 0=xV j:=by unfold xI mkO xV; simp
theorem qZN {α:Type} (l:List α) {k i:Nat} (hk:k<8) (hi:i<8) (h:l.length=8):(l.drop k++l.take k)[i]?=l[(i+k) % 8]?:=by
 by_cases h1:i<8-k
 ·rw [List.getElem?_append_left (by simp; omega),List.getElem?_drop,Nat.mod_eq_of_lt (by omega),Nat.add_comm]
 rw [List.getElem?_append_right (by simp; omega),List.getElem?_take]
 simp only [List.length_drop,h]
 rw [if_pos (by omega)]
 congr 1
 omega
theorem qIU {k:Nat} (hk:k<8):yZ (wR.drop k++wR.take k)=true∧yZ ((wR.drop k++wR.take k).drop 1)=true:=by
 have:∀ k:Fin 8,yZ (wR.drop k.val++wR.take k.val)=true∧yZ ((wR.drop k.val++wR.take k.val).drop 1)=true:=by decide +kernel
 exact this ⟨k,hk⟩
theorem qEA {j:Jb} {k:Nat} {x:Val} (h:x∈(zC j).drop k++(zC j).take k):x∈zC j:=by
 rcases List.mem_append.1 h with h | h
 ·exact List.mem_of_mem_drop h
 exact List.mem_of_mem_take h
theorem qWT {j : Jb} (hm : (zC j).all zU = true) {k : Nat} (hk : k < 8) :
  (zU (xI j k)=true∧xU (xI j k)=false∧yE (xI j k)=xI j k∧Val.sz (xI j k)≤9∧qBD (xI j k)≤2) ∧
  (zU (qME j k)=true∧xU (qME j k)=false∧yE (qME j k)=qME j k∧Val.sz (qME j k)≤9∧qBD (qME j k)≤2):=by
 have hl1:(wR.drop k++wR.take k).length=8:=by simp [show wR.length=8 from rfl]; omega
 have hl2:((zC j).drop k++(zC j).take k).length=8:=by simp [show (zC j).length=8 from rfl]; omega
 rw [List.all_eq_true] at hm
 constructor
 ·exact qLX (qIU hk).1 (by rw [hl1,hl2]) (by omega) (fun x hx=>hm x (qEA hx)) (fun x hx=>qGT (qEA hx))
 exact qLX (qIU hk).2 (by rw [List.length_drop,List.length_drop,hl1,hl2]) (by rw [List.length_drop]; omega) (fun x hx=>hm x (qEA (List.mem_of_mem_drop hx))) (fun x hx=>qGT (qEA (List.mem_of_mem_drop hx)))
theorem qQO {j:Jb} (hb:qRE j) {k:Nat} (hk:k<8):vS ((xI j k).keys,(xI j k).kids):=by
 have hl1:(wR.drop k++wR.take k).length=8:=by simp [show wR.length=8 from rfl]; omega
 have hl2:((zC j).drop k++(zC j).take k).length=8:=by simp [show (zC j).length=8 from rfl]; omega
 refine ⟨hl1.trans hl2.symm, ?_, ?_⟩
 ·have:=(qIU hk).1
  unfold yZ at this
  simp only [Bool.and_eq_true,decide_eq_true_eq] at this
  exact this.2
 intro x hx
 have hx:x∈zC j:=qEA (show x∈(zC j).drop k++(zC j).take k from hx)
 simp only [zC,List.mem_cons,List.not_mem_nil,or_false] at hx
 have ht:∀ s,qCW (qAM s):=fun s=>kY (show ¬ (5:Int)=4 by decide)
 have hn:∀ f,f<4→qCW (xW (yP j f)):=fun f hf _=>zAK (hb f hf).1 (hb f hf).2
 rcases hx with h | h | h | h | h | h | h | h
 ·exact h ▸ ht _
 ·exact h ▸ ht _
 ·exact h ▸ ht _
 ·exact h ▸ ht _
 ·exact h ▸ hn 0 (by omega)
 ·exact h ▸ hn 1 (by omega)
 ·exact h ▸ hn 2 (by omega)
 exact h ▸ hn 3 (by omega)
theorem zGG (j:Jb) {m:Nat} (h:m<8):∃ f,f<4∧((wR.getD m []=zS.getD f []∧(zC j).getD m zM=qAM (wG j f))∨(wR.getD m []=wX.getD f []∧(zC j).getD m zM=xW (yP j f))):=by
 match m,h with
 | 0,_=>exact ⟨0,by omega,.inl ⟨rfl,rfl⟩⟩
 | 1,_=>exact ⟨1,by omega,.inl ⟨rfl,rfl⟩⟩
 | 2,_=>exact ⟨2,by omega,.inl ⟨rfl,rfl⟩⟩
 | 3,_=>exact ⟨3,by omega,.inl ⟨rfl,rfl⟩⟩
 | 4,_=>exact ⟨0,by omega,.inr ⟨rfl,rfl⟩⟩
 | 5,_=>exact ⟨1,by omega,.inr ⟨rfl,rfl⟩⟩
 | 6,_=>exact ⟨2,by omega,.inr ⟨rfl,rfl⟩⟩
 | 7,_=>exact ⟨3,by omega,.inr ⟨rfl,rfl⟩⟩
theorem qNP (j:Jb) {k i:Nat} (hk:k<8) (hi:i<8):(xI j k).keys.getD i []=wR.getD ((i+k) % 8) []∧(xI j k).kids.getD i zM=(zC j).getD ((i+k) % 8) zM:=by
 constructor
 ·show (wR.drop k++wR.take k).getD i []=_
  rw [List.getD_eq_getElem?_getD,qZN wR hk hi rfl,← List.getD_eq_getElem?_getD]
 show ((zC j).drop k++(zC j).take k).getD i zM=_
 rw [List.getD_eq_getElem?_getD,qZN (zC j) hk hi rfl,← List.getD_eq_getElem?_getD]
def qKN (j:Jb):Bool:=inB j.a && inB j.b && inB j.c && inB j.d
theorem qSG (j:Jb):qKN j=true↔∀ f,f<4→inB (yP j f)=true:=by
 unfold qKN
 simp only [Bool.and_eq_true]
 constructor
 ·rintro ⟨⟨⟨h0,h1⟩,h2⟩,h3⟩ f hf
  match f,hf with
  | 0,_=>exact h0
  | 1,_=>exact h1
  | 2,_=>exact h2
  | 3,_=>exact h3
 intro h
 exact ⟨⟨⟨h 0 (by omega),h 1 (by omega)⟩,h 2 (by omega)⟩,h 3 (by omega)⟩
theorem zAR {j:Jb} (hb:qRE j) {k:Nat} (hk:k<8):kZ (xI j k) 8=if qKN j=true then some j else none:=by
 have hm:=qQO hb hk
 have h8:(xI j k).keys.length=8:=by
  show (wR.drop k++wR.take k).length=8
  simp [show wR.length=8 from rfl]; omega
 have hWn:∀ f,f<4→(inB (yP j f)=true→yK (xW (yP j f))=(yP j f,true))∧(inB (yP j f)=false→(yK (xW (yP j f))).2=false):=fun f hf=>qWL (hb f hf).1 (hb f hf).2
 have hpos:∀ m,m<8→∃ i,i<8∧(i+k) % 8=m:=fun m hm=>⟨(m+8-k) % 8,by omega,by omega⟩
 have hex:∀ f,f<4→(∃ i,i<8∧(xI j k).keys.getD i []=zS.getD f []∧(xI j k).kids.getD i zM=qAM (wG j f))∧∃ i,i<8∧(xI j k).keys.getD i []=wX.getD f []∧(xI j k).kids.getD i zM=xW (yP j f):=fun f hf=>by
  obtain ⟨i,hi,ei⟩:=hpos f (by omega)
  obtain ⟨i',hi',ei'⟩:=hpos (f+4) (by omega)
  obtain ⟨g1,g2⟩:=qNP j hk hi
  obtain ⟨g3,g4⟩:=qNP j hk hi'
  rw [ei] at g1 g2
  rw [ei'] at g3 g4
  refine ⟨⟨i,hi,g1.trans ?_,g2.trans ?_⟩,⟨i',hi',g3.trans ?_,g4.trans ?_⟩⟩
  all_goals match f,hf with
   | 0,_=>rfl
   | 1,_=>rfl
   | 2,_=>rfl
   | 3,_=>rfl
 cases hj:kZ (xI j k) 8 with
 | some q =>
  have hs:=qMR hm 8 q (by omega) hj
  have hin:∀ f,f<4→inB (yP j f)=true:=fun f hf=>by
   obtain ⟨i,hi,e1,e2⟩:=(hex f hf).2
   obtain ⟨g1,g2⟩:=hs i hi
   rw [e1,e2] at g1
   rw [← Bool.not_eq_false]
   intro hno
   rcases g1 with g1 | g1
   ·exact vV _ g1.1 (qJE hf)
   rw [(hWn f hf).2 hno] at g1; cases g1.2
  rw [if_pos ((qSG j).2 hin)]
  congr 1
  refine zGH fun f hf=>⟨?_, ?_⟩
  ·obtain ⟨i,hi,e1,e2⟩:=(hex f hf).1
   rw [((hs i hi).2 f hf).1 e1,e2]; rfl
  obtain ⟨i,hi,e1,e2⟩:=(hex f hf).2
  rw [((hs i hi).2 f hf).2 e1,e2,(hWn f hf).1 (hin f hf)]
 | none =>
  rw [if_neg]
  intro hin
  have hin:=(qSG j).1 hin
  obtain ⟨i,hi,hbad⟩:=qRT 8 hj
  apply hbad
  obtain ⟨g1,g2⟩:=qNP j hk hi
  rw [g1,g2]
  obtain ⟨f,hf,⟨e1,e2⟩ | ⟨e1,e2⟩⟩:=zGG j (m:=(i+k) % 8) (by omega)
  ·rw [e1,e2]; exact .inl ⟨qLF hf,rfl⟩
  rw [e1,e2]; exact .inr ⟨qJE hf,by rw [(hWn f hf).1 (hin f hf)]⟩
theorem qZQ {j : Jb} (hm : (zC j).all zU = true) (hb : qRE j) {k : Nat} (hk : k < 8) {ws rest : List UInt8} (hw : ws.all wC = true) :
  uB (ws++(qF (xI j k)++rest))=if rest.all wC=true∧qKN j=true then (j,0) else (jb0,240):=by
 obtain ⟨⟨m1,m2,m3,m4,m5⟩, -⟩:=qWT hm hk
 have h8:(xI j k).keys.length=8:=by
  show (wR.drop k++wR.take k).length=8
  simp [show wR.length=8 from rfl]; omega
 have hne:(xI j k).kids≠[]:=fun e=>by
  have:(xI j k).keys.length=(xI j k).kids.length:=(qQO hb hk).1
  rw [e,h8] at this; simp at this
 rw [qWX m1 m2 rfl hne (by omega) (by omega) m3 hw,zAR hb hk]
 by_cases h1:rest.all wC=true
 ·by_cases h2:qKN j=true
  ·rw [if_pos ⟨h1,h8⟩,if_pos h2,if_pos ⟨h1,h2⟩]
  rw [if_pos ⟨h1,h8⟩,if_neg h2,if_neg fun h=>h2 h.2]
 rw [if_neg fun h=>h1 h.1,if_neg fun h=>h1 h.1]
theorem qZS {j:Jb} (hm:(zC j).all zU=true) {k:Nat} (hk:k<(qF (xV j)).length):uB ((qF (xV j)).take k)=(jb0,240):=by
 have:=zDK (qHN hm) (qNZ j) (.inr (.inr rfl)) hk
 unfold uB
 rw [this,if_pos (.inl (by decide))]
theorem qUK {j : Jb} (hm : (zC j).all zU = true) (hb : qRE j) :
  uB (qF (xV j))=(if qKN j=true then (j,0) else (jb0,240))∧uB ([32]++qF (xV j)++[10])=(if qKN j=true then (j,0) else (jb0,240))∧uB (qF (xV j)++[49])=(jb0,240)∧(qF (xV j)).length≤450000:=by
 have h:=fun (ws rest:List UInt8) (hw:ws.all wC=true)=>qZQ hm hb (k:=0) (by omega) (ws:=ws) (rest:=rest) hw
 rw [qZM] at h
 have hl:=qLU (xV j) (qHN hm)
 rw [qTM] at hl
 refine ⟨?_, ?_, ?_,by omega⟩
 ·have:=h [] [] rfl
  simp only [List.nil_append,List.append_nil] at this
  rw [this]
  by_cases c:qKN j=true
  ·rw [if_pos c,if_pos ⟨rfl,c⟩]
  rw [if_neg c,if_neg fun e=>c e.2]
 ·have:=h [32] [10] (by decide)
  rw [List.append_assoc,this]
  by_cases c:qKN j=true
  ·rw [if_pos c,if_pos ⟨by decide,c⟩]
  rw [if_neg c,if_neg fun e=>c e.2]
 have:=h [] [49] rfl
 simp only [List.nil_append] at this
 rw [this,if_neg]
 rintro ⟨e, -⟩
 revert e; decide
end Go.Proofs.YtlmedakhioiahaaGreatDoor
