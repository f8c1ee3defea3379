import Derived.Test.YtlmedakhioiahaaGreatDoorSReadOK
import Derived.Test.YtlmedakhioiahaaGreatDoorSTexts21
import Derived.Test.YtlmedakhioiahaaGreatDoorSCutV
import Derived.Test.YtlmedakhioiahaaGreatDoorSArith
namespace Go.Proofs.YtlmedakhioiahaaGreatDoor
open Sy Go
set_option maxRecDepth 100000
set_option linter.unusedSimpArgs false
set_option linter.unusedVariables false
theorem zCD (b:UInt8):jG [b]=b.toNat-48:=by rw [qDL]; simp [jG]
theorem qZP (u:Nat):jG (jE u)=u:=by
 induction u using Nat.strongRecOn with
 | _ u ih =>
  rcases Nat.eq_zero_or_pos u with h | h
  ·subst h; rw [qBB]; rfl
  rw [qGM h,qRZ,ih (u / 10) (by omega),zCD]
  simp only [List.length_singleton,UInt8.toNat_ofNat']
  omega
theorem zHS {n:Int} (h0 : -9223372036854775808≤n) (h1:n≤9223372036854775807):uM n=if zB (jE n.natAbs)=[] then ⟨false,[48],0⟩ else ⟨decide (n<0),zB (jE n.natAbs),0⟩:=by
 have hl:=qCU 20 n.natAbs (by omega)
 have hsl:(zB (jE n.natAbs)).length≤20:=Nat.le_trans (List.dropWhile_sublist _).length_le hl
 have ht:yB (zB (jE n.natAbs)) 0=(zB (jE n.natAbs),0):=rfl
 unfold uM wI
 rw [ht]
 by_cases h:zB (jE n.natAbs)=[]
 ·rw [if_pos h,if_pos h]
 rw [if_neg h,if_neg h,if_neg (by simp only; omega)]; rfl
theorem qZN {n:Int} (h0 : -9223372036854775808≤n) (h1:n≤9223372036854775807):kT (uM n)=n∧(uM n).scale=0∧∀ k,1≤k→n.natAbs<10 ^ k→(uM n).digits.length≤k:=by
 have hv:=qNP (jE n.natAbs)
 rw [qZP] at hv
 have hsl:(zB (jE n.natAbs)).length≤(jE n.natAbs).length:=(List.dropWhile_sublist _).length_le
 rw [zHS h0 h1]
 split
 ·rename_i hs
  rw [hs] at hv
  have hv:(0:Nat)=n.natAbs:=hv
  refine ⟨?_,rfl,fun k hk _=>hk⟩
  show ((jG [48]:Nat):Int)=n
  rw [show jG [48]=0 from rfl]; omega
 refine ⟨?_,rfl,fun k _ hk=>Nat.le_trans hsl (qCU k _ hk)⟩
 unfold kT
 simp only [hv,decide_eq_true_eq]
 split <;> omega
theorem qZM {n:Int} (h0 : -9223372036854775808≤n) (h1:n≤9223372036854775807):(inB n=true→kA (uE n)=(n,true))∧(inB n=false→(kA (uE n)).2=false):=by
 obtain ⟨w1,w2,w3⟩:=qZN h0 h1
 have hM:kA (uE n)=if (4:Int)=4∧(uM n).scale=0∧(uM n).digits.length≤15 then (kT (uM n),inB (kT (uM n))) else (0,false):=rfl
 rw [hM,w1]
 constructor
 ·intro hb
  have hn:n.natAbs<10 ^ 13:=by
   unfold inB at hb
   simp only [Bool.and_eq_true,decide_eq_true_eq] at hb
   omega
  rw [if_pos ⟨rfl,w2,Nat.le_trans (w3 13 (by omega) hn) (by omega)⟩,hb]
 intro hb
 split
 ·exact hb
 rfl
theorem qIT {j:Jb} {x:Val} (h:x∈zD j):(∃ s,x=qCC s)∨∃ n,x=uE n:=by
 simp only [zD,List.mem_cons,List.not_mem_nil,or_false] at h
 rcases h with h | h | h | h | h | h | h | h
 ·exact .inl ⟨_,h⟩
 ·exact .inl ⟨_,h⟩
 ·exact .inl ⟨_,h⟩
 ·exact .inl ⟨_,h⟩
 ·exact .inr ⟨_,h⟩
 ·exact .inr ⟨_,h⟩
 ·exact .inr ⟨_,h⟩
 exact .inr ⟨_,h⟩
theorem qBL {x:Val} (h:(∃ s,x=qCC s)∨∃ n,x=uE n):yV x=x∧Val.sz x=1∧qCV x=1∧uL x=false:=by
 rcases h with ⟨s,rfl⟩ | ⟨n,rfl⟩
 ·refine ⟨?_, ?_, ?_, ?_⟩
  ·rw [yP]; rfl
  ·rw [qII]; rfl
  ·rw [qDU]; rfl
  rw [qBI]; rfl
 refine ⟨?_, ?_, ?_, ?_⟩
 ·rw [yP]; rfl
 ·rw [qII]; rfl
 ·rw [qDU]; rfl
 rw [qBI]; rfl
def mkO (ks:List (List UInt8)) (vs:List Val):Val := .mk 7 0 dc0 [] ks vs 0
theorem qSI:∀ l:List Val,(∀ x∈l,Val.sz x=1)→Val.szL l=l.length
 | [],_=>rfl
 | x::l,h=>by simp only [Val.szL,List.length_cons]; rw [h x (by simp),qSI l fun y hy=>h y (by simp [hy])]; omega
theorem qOF {ks : List (List UInt8)} {vs : List Val} (hk : kY ks = true) (hl : ks.length = vs.length) (h8 : vs.length ≤ 8) (hm : ∀ x ∈ vs, wC x = true) (hx : ∀ x ∈ vs, (∃ s, x = qCC s) ∨ ∃ n, x = uE n) :
  wC (mkO ks vs)=true∧uL (mkO ks vs)=false∧yV (mkO ks vs)=mkO ks vs∧Val.sz (mkO ks vs)≤9∧qCV (mkO ks vs)≤2:=by
 refine ⟨?_, ?_, ?_, ?_, ?_⟩
 ·refine qLS ⟨(show (1:Int)≤7 by decide),(show (7:Int)≤8 by decide),(show vs.length≤200 by omega)⟩ ?_ ?_ ?_ ?_ ?_ ?_ ?_ ?_ ?_
  ·exact ⟨fun h=>absurd h (show ¬ (7:Int)=8 by decide),fun h=>absurd rfl h⟩
  ·exact fun h=>absurd h (show ¬ (7:Int)=4 by decide)
  ·exact fun _=>rfl
  ·exact fun h=>absurd h (show ¬ (7:Int)=5 by decide)
  ·exact fun _=>rfl
  ·exact fun _=>⟨hl,hk⟩
  ·exact fun h=>absurd rfl h
  ·exact .inr (.inr rfl)
  exact fun k hk=>hm k hk
 ·rw [qBI,Bool.or_eq_false_iff]
  refine ⟨rfl, ?_⟩
  rw [List.any_eq_false]
  intro x hx'
  rw [(qBL (hx x hx')).2.2.2]; exact Bool.false_ne_true
 ·rw [yP]
  show (.mk 7 0 dc0 [] ks (vs.map yV) 0:Val) = .mk 7 0 dc0 [] ks vs 0
  have:vs.map yV=vs:=by
   conv=>rhs; rw [← List.map_id vs]
   exact List.map_congr_left fun x h=>(qBL (hx x h)).1
  rw [this]
 ·rw [qII]
  show 1+Val.szL vs≤9
  rw [qSI vs fun x h=>(qBL (hx x h)).2.1]; omega
 rw [qDU]
 have:uN 0 vs≤1:=zIB (by omega) fun x h=>Nat.le_of_eq (qBL (hx x h)).2.2.1
 show uN 0 vs+1≤2
 omega
theorem zHG {v : Val} (hm : wC v = true) (hp : uL v = false) (k : v.kind = 7) (hk0 : v.kids ≠ []) {n : Nat} {ws : List UInt8} {st : RS} {d : Nat} {rest : List UInt8} (hl : st.left = ws ++ (qI v ++ rest)) (hw : ws.all wR = true) (hb : st.bad = false) (hn : 2 * (qI v).length ≤ n) :
  qS n st d=(⟨rest,st.nodes+Val.sz v,false,st.deep || decide (12<d+qCV v-1),st.big || decide (400<st.nodes+Val.sz v)⟩,yV v):=by
 obtain ⟨hcode,hkl,hc⟩:=qDR hm (qLL hp)
 have ihk:∀ k∈v.kids,RB k:=fun k hk=>zAB k (qGE hm hk) (qQE hp hk)
 obtain ⟨b0,t0,e0,hb0⟩:=qEP hm
 obtain ⟨n,rfl⟩:∃ k,n=k+1:=⟨n-1,by rw [e0] at hn; simp at hn; omega⟩
 rw [qII,qDU]
 rcases hc with ⟨k',h1,h2,h3,h4⟩ | ⟨k',h1,h2,h3,h4⟩ | ⟨k',h1,h2,h3,h4⟩ | ⟨k',h1,h2,h3,h4⟩ | ⟨k',h1,h2,h3,h4⟩ | ⟨k',h1,h2,h3⟩ | ⟨k',h1,h2,h3,h4⟩
 ·omega
 ·omega
 ·omega
 ·omega
 ·omega
 ·omega
 rw [qAD hcode k h1 h2 rfl]
 rw [qWD k] at hl hn
 rw [show ws++([123]++Lib.join (kM v.keys (v.kids.map qI)) [44]++[125]++rest)=ws++123::(Lib.join (kM v.keys (v.kids.map qI)) [44]++125::rest) by simp] at hl
 have he:=uH d hl hw (by decide)
 simp only [qS,he,qLK]
 rw [if_neg (by decide),if_pos (by decide)]
 simp only [qW,List.drop_succ_cons,List.drop_zero]
 have hkw:(∀ s∈v.keys,xE s=true)∧v.keys.Nodup:=by
  unfold kY at h4
  simp only [Bool.and_eq_true,List.all_eq_true,decide_eq_true_eq] at h4
  exact h4
 obtain ⟨b, t, e, p1, p2, p3⟩ := qHN (l := kM v.keys (v.kids.map qI)) (by
   intro e0
   have:=congrArg List.length e0
   simp [kM,h3] at this
   exact hk0 this) (125::rest) (fun b=>wR b=false∧b≠93∧b≠125) (by
  intro s hs
  obtain ⟨i,hi,rfl⟩:=List.mem_iff_getElem.1 hs
  simp only [kM,List.getElem_zipWith]
  exact ⟨34,_,rfl,by decide⟩)
 rw [qJR (ws:=[]) (w:=125) e rfl p1 p3]
 simp only [Bool.false_eq_true,if_false]
 rw [qTC v.kids v.keys h3 hk0 ihk hkw.1 n ⟨b::t,st.nodes+1,st.bad,st.deep || decide (12<d),st.big || decide (400<st.nodes+1)⟩ (d+1) 1 [] [] rest (by simpa using hkw.2) e.symm hb (by omega) (by simp only [List.length_append,List.length_cons,List.length_nil] at hn; omega)]
 have hd:1≤uN 0 v.kids:=by
  cases hkk:v.kids with
  | nil=>exact absurd hkk hk0
  | cons a l=>rw [qBC]; have:=qGN a; omega
 refine Prod.ext ?_ (by simp)
 simp only [RS.mk.injEq,true_and]
 exact ⟨by omega,qFE _ hd,qHP _⟩
theorem qYM {v : Val} (hm : wC v = true) (hp : uL v = false) (h7 : v.kind = 7) (hk0 : v.kids ≠ []) (hd : qCV v ≤ 12) (hs : Val.sz v ≤ 400) {ws rest : List UInt8} (hw : ws.all wR = true) :
  kF (ws++(qI v++rest))=(yV v,((ws.length+(qI v).length:Nat):Int),0):=by
 unfold kF
 rw [zHG hm hp h7 hk0 (n:=2 * (ws++(qI v++rest)).length+2) (ws:=ws) (st:=⟨ws++(qI v++rest),0,false,false,false⟩) (d:=1) (rest:=rest) rfl hw rfl (by simp only [List.length_append]; omega)]
 simp only [Bool.false_or,Nat.zero_add,Nat.add_sub_cancel_left,Bool.false_eq_true,if_false,decide_eq_true_eq]
 rw [if_neg (by omega),if_neg (by omega)]
 simp only [List.length_append]
 rw [show ((ws.length+((qI v).length+rest.length):Nat):Int)-(rest.length:Nat)=((ws.length+(qI v).length:Nat):Int) by omega]
theorem qNY {v : Val} (hm : wC v = true) (hp : uL v = false) (h7 : v.kind = 7) (hk0 : v.kids ≠ []) (hd : qCV v ≤ 12) (hs : Val.sz v ≤ 400) (hb : yV v = v) {ws rest : List UInt8} (hw : ws.all wR = true) :
  qCG (ws++(qI v++rest))=if rest.all wR=true∧v.keys.length=8 then (match xA v 8 with | some j=>((j,0):Jb × Int) | none=>(jb0,240)) else (jb0,240):=by
 have ho:=qYM hm hp h7 hk0 hd hs (rest:=rest) hw
 rw [hb] at ho
 have hdr:(ws++(qI v++rest)).drop ((ws.length+(qI v).length:Nat):Int).toNat=rest:=by
  rw [Int.toNat_natCast,← List.append_assoc,List.drop_append_of_le_length (by simp),List.drop_of_length_le (by simp),List.nil_append]
 unfold qCG
 rw [ho]
 simp only
 rw [hdr,show zIG=[32,9,10,13] from rfl]
 have ht:=zCP rest
 by_cases h:rest.all wR=true∧v.keys.length=8
 ·rw [if_pos h,if_neg (by
   rintro (h1 | h1 | h1 | h1)
   ·exact h1 rfl
   ·exact h1 (ht.2 h.1)
   ·exact h1 h7
   exact h1 h.2)]
  cases xA v 8 <;> rfl
 rw [if_neg h,if_pos]
 by_cases h1:rest.all wR=true
 ·exact .inr (.inr (.inr fun h2=>h ⟨h1,h2⟩))
 exact .inr (.inl fun h2=>h1 (ht.1 h2))
theorem zKF {q j:Jb} (h:∀ f,f<4→wY q f=wY j f∧kG q f=kG j f):q=j:=by
 have h0:=h 0 (by omega)
 have h1:=h 1 (by omega)
 have h2:=h 2 (by omega)
 have h3:=h 3 (by omega)
 obtain ⟨p,f,i,n,a,b,c,d⟩:=q
 obtain ⟨p',f',i',n',a',b',c',d'⟩:=j
 simp only [wY,kG,List.getD_cons_zero,List.getD_cons_succ] at h0 h1 h2 h3
 rw [h0.1,h1.1,h2.1,h3.1,h0.2,h1.2,h2.2,h3.2]
def jT (j:Jb) (k:Nat):Val:=mkO (yD.drop k++yD.take k) ((zD j).drop k++(zD j).take k)
def vG (j:Jb) (k:Nat):Val:=mkO ((yD.drop k++yD.take k).drop 1) (((zD j).drop k++(zD j).take k).drop 1)
theorem qTA (j:Jb):jT j 0=wV j:=by unfold jT mkO wV; simp
theorem zCV {α:Type} (l:List α) {k i:Nat} (hk:k<8) (hi:i<8) (h:l.length=8):(l.drop k++l.take k)[i]?=l[(i+k) % 8]?:=by
 by_cases h1:i<8-k
 ·rw [List.getElem?_append_left (by simp; omega),List.getElem?_drop,Nat.mod_eq_of_lt (by omega),Nat.add_comm]
 rw [List.getElem?_append_right (by simp; omega),List.getElem?_take]
 simp only [List.length_drop,h]
 rw [if_pos (by omega)]
 congr 1
 omega
theorem qKZ {k:Nat} (hk:k<8):kY (yD.drop k++yD.take k)=true∧kY ((yD.drop k++yD.take k).drop 1)=true:=by
 have:∀ k:Fin 8,kY (yD.drop k.val++yD.take k.val)=true∧kY ((yD.drop k.val++yD.take k.val).drop 1)=true:=by decide +kernel
 exact this ⟨k,hk⟩
theorem qFU {j:Jb} {k:Nat} {x:Val} (h:x∈(zD j).drop k++(zD j).take k):x∈zD j:=by
 rcases List.mem_append.1 h with h | h
 ·exact List.mem_of_mem_drop h
 exact List.mem_of_mem_take h
theorem qAO {j : Jb} (hm : (zD j).all wC = true) {k : Nat} (hk : k < 8) :
  (wC (jT j k)=true∧uL (jT j k)=false∧yV (jT j k)=jT j k∧Val.sz (jT j k)≤9∧qCV (jT j k)≤2) ∧
  (wC (vG j k)=true∧uL (vG j k)=false∧yV (vG j k)=vG j k∧Val.sz (vG j k)≤9∧qCV (vG j k)≤2):=by
 have hl1:(yD.drop k++yD.take k).length=8:=by simp [show yD.length=8 from rfl]; omega
 have hl2:((zD j).drop k++(zD j).take k).length=8:=by simp [show (zD j).length=8 from rfl]; omega
 rw [List.all_eq_true] at hm
 constructor
 ·exact qOF (qKZ hk).1 (by rw [hl1,hl2]) (by omega) (fun x hx=>hm x (qFU hx)) (fun x hx=>qIT (qFU hx))
 exact qOF (qKZ hk).2 (by rw [List.length_drop,List.length_drop,hl1,hl2]) (by rw [List.length_drop]; omega) (fun x hx=>hm x (qFU (List.mem_of_mem_drop hx))) (fun x hx=>qIT (qFU (List.mem_of_mem_drop hx)))
theorem qTB {j:Jb} (hb:qTV j) {k:Nat} (hk:k<8):qAG ((jT j k).keys,(jT j k).kids):=by
 have hl1:(yD.drop k++yD.take k).length=8:=by simp [show yD.length=8 from rfl]; omega
 have hl2:((zD j).drop k++(zD j).take k).length=8:=by simp [show (zD j).length=8 from rfl]; omega
 refine ⟨hl1.trans hl2.symm, ?_, ?_⟩
 ·have:=(qKZ hk).1
  unfold kY at this
  simp only [Bool.and_eq_true,decide_eq_true_eq] at this
  exact this.2
 intro x hx
 have hx:x∈zD j:=qFU (show x∈(zD j).drop k++(zD j).take k from hx)
 simp only [zD,List.mem_cons,List.not_mem_nil,or_false] at hx
 have ht:∀ s,qES (qCC s):=fun s=>jZ (show ¬ (5:Int)=4 by decide)
 have hn:∀ f,f<4→qES (uE (kG j f)):=fun f hf _=>zEB (hb f hf).1 (hb f hf).2
 rcases hx with h | h | h | h | h | h | h | h
 ·exact h ▸ ht _
 ·exact h ▸ ht _
 ·exact h ▸ ht _
 ·exact h ▸ ht _
 ·exact h ▸ hn 0 (by omega)
 ·exact h ▸ hn 1 (by omega)
 ·exact h ▸ hn 2 (by omega)
 exact h ▸ hn 3 (by omega)
theorem zKE (j:Jb) {m:Nat} (h:m<8):∃ f,f<4∧((yD.getD m []=wD.getD f []∧(zD j).getD m zK=qCC (wY j f))∨(yD.getD m []=yQ.getD f []∧(zD j).getD m zK=uE (kG j f))):=by
 match m,h with
 | 0,_=>exact ⟨0,by omega,.inl ⟨rfl,rfl⟩⟩
 | 1,_=>exact ⟨1,by omega,.inl ⟨rfl,rfl⟩⟩
 | 2,_=>exact ⟨2,by omega,.inl ⟨rfl,rfl⟩⟩
 | 3,_=>exact ⟨3,by omega,.inl ⟨rfl,rfl⟩⟩
 | 4,_=>exact ⟨0,by omega,.inr ⟨rfl,rfl⟩⟩
 | 5,_=>exact ⟨1,by omega,.inr ⟨rfl,rfl⟩⟩
 | 6,_=>exact ⟨2,by omega,.inr ⟨rfl,rfl⟩⟩
 | 7,_=>exact ⟨3,by omega,.inr ⟨rfl,rfl⟩⟩
theorem qQA (j:Jb) {k i:Nat} (hk:k<8) (hi:i<8):(jT j k).keys.getD i []=yD.getD ((i+k) % 8) []∧(jT j k).kids.getD i zK=(zD j).getD ((i+k) % 8) zK:=by
 constructor
 ·show (yD.drop k++yD.take k).getD i []=_
  rw [List.getD_eq_getElem?_getD,zCV yD hk hi rfl,← List.getD_eq_getElem?_getD]
 show ((zD j).drop k++(zD j).take k).getD i zK=_
 rw [List.getD_eq_getElem?_getD,zCV (zD j) hk hi rfl,← List.getD_eq_getElem?_getD]
def qVE (j:Jb):Bool:=inB j.a && inB j.b && inB j.c && inB j.d
theorem qVD (j:Jb):qVE j=true↔∀ f,f<4→inB (kG j f)=true:=by
 unfold qVE
 simp only [Bool.and_eq_true]
 constructor
 ·rintro ⟨⟨⟨h0,h1⟩,h2⟩,h3⟩ f hf
  match f,hf with
  | 0,_=>exact h0
  | 1,_=>exact h1
  | 2,_=>exact h2
  | 3,_=>exact h3
 intro h
 exact ⟨⟨⟨h 0 (by omega),h 1 (by omega)⟩,h 2 (by omega)⟩,h 3 (by omega)⟩
theorem zEJ {j:Jb} (hb:qTV j) {k:Nat} (hk:k<8):xA (jT j k) 8=if qVE j=true then some j else none:=by
 have hm:=qTB hb hk
 have h8:(jT j k).keys.length=8:=by
  show (yD.drop k++yD.take k).length=8
  simp [show yD.length=8 from rfl]; omega
 have hWn:∀ f,f<4→(inB (kG j f)=true→kA (uE (kG j f))=(kG j f,true))∧(inB (kG j f)=false→(kA (uE (kG j f))).2=false):=fun f hf=>qZM (hb f hf).1 (hb f hf).2
 have hpos:∀ m,m<8→∃ i,i<8∧(i+k) % 8=m:=fun m hm=>⟨(m+8-k) % 8,by omega,by omega⟩
 have hex:∀ f,f<4→(∃ i,i<8∧(jT j k).keys.getD i []=wD.getD f []∧(jT j k).kids.getD i zK=qCC (wY j f))∧∃ i,i<8∧(jT j k).keys.getD i []=yQ.getD f []∧(jT j k).kids.getD i zK=uE (kG j f):=fun f hf=>by
  obtain ⟨i,hi,ei⟩:=hpos f (by omega)
  obtain ⟨i',hi',ei'⟩:=hpos (f+4) (by omega)
  obtain ⟨g1,g2⟩:=qQA j hk hi
  obtain ⟨g3,g4⟩:=qQA j hk hi'
  rw [ei] at g1 g2
  rw [ei'] at g3 g4
  refine ⟨⟨i,hi,g1.trans ?_,g2.trans ?_⟩,⟨i',hi',g3.trans ?_,g4.trans ?_⟩⟩
  all_goals match f,hf with
   | 0,_=>rfl
   | 1,_=>rfl
   | 2,_=>rfl
   | 3,_=>rfl
 cases hj:xA (jT j k) 8 with
 | some q =>
  have hs:=qOY hm 8 q (by omega) hj
  have hin:∀ f,f<4→inB (kG j f)=true:=fun f hf=>by
   obtain ⟨i,hi,e1,e2⟩:=(hex f hf).2
   obtain ⟨g1,g2⟩:=hs i hi
   rw [e1,e2] at g1
   rw [← Bool.not_eq_false]
   intro hno
   rcases g1 with g1 | g1
   ·exact qAJ _ g1.1 (qLN hf)
   rw [(hWn f hf).2 hno] at g1; cases g1.2
  rw [if_pos ((qVD j).2 hin)]
  congr 1
  refine zKF fun f hf=>⟨?_, ?_⟩
  ·obtain ⟨i,hi,e1,e2⟩:=(hex f hf).1
   rw [((hs i hi).2 f hf).1 e1,e2]; rfl
  obtain ⟨i,hi,e1,e2⟩:=(hex f hf).2
  rw [((hs i hi).2 f hf).2 e1,e2,(hWn f hf).1 (hin f hf)]
 | none =>
  rw [if_neg]
  intro hin
  have hin:=(qVD j).1 hin
  obtain ⟨i,hi,hbad⟩:=qUM 8 hj
  apply hbad
  obtain ⟨g1,g2⟩:=qQA j hk hi
  rw [g1,g2]
  obtain ⟨f,hf,⟨e1,e2⟩ | ⟨e1,e2⟩⟩:=zKE j (m:=(i+k) % 8) (by omega)
  ·rw [e1,e2]; exact .inl ⟨qNK hf,rfl⟩
  rw [e1,e2]; exact .inr ⟨qLN hf,by rw [(hWn f hf).1 (hin f hf)]⟩
theorem zCY {j : Jb} (hm : (zD j).all wC = true) (hb : qTV j) {k : Nat} (hk : k < 8) {ws rest : List UInt8} (hw : ws.all wR = true) :
  qCG (ws++(qI (jT j k)++rest))=if rest.all wR=true∧qVE j=true then (j,0) else (jb0,240):=by
 obtain ⟨⟨m1,m2,m3,m4,m5⟩, -⟩:=qAO hm hk
 have h8:(jT j k).keys.length=8:=by
  show (yD.drop k++yD.take k).length=8
  simp [show yD.length=8 from rfl]; omega
 have hne:(jT j k).kids≠[]:=fun e=>by
  have:(jT j k).keys.length=(jT j k).kids.length:=(qTB hb hk).1
  rw [e,h8] at this; simp at this
 rw [qNY m1 m2 rfl hne (by omega) (by omega) m3 hw,zEJ hb hk]
 by_cases h1:rest.all wR=true
 ·by_cases h2:qVE j=true
  ·rw [if_pos ⟨h1,h8⟩,if_pos h2,if_pos ⟨h1,h2⟩]
  rw [if_pos ⟨h1,h8⟩,if_neg h2,if_neg fun h=>h2 h.2]
 rw [if_neg fun h=>h1 h.1,if_neg fun h=>h1 h.1]
theorem zAA {j:Jb} (hm:(zD j).all wC=true) {k:Nat} (hk:k<8):qCG (qI (vG j k))=(jb0,240):=by
 obtain ⟨-, ⟨m1,m2,m3,m4,m5⟩⟩:=qAO hm hk
 have h7:(vG j k).keys.length=7:=by
  show ((yD.drop k++yD.take k).drop 1).length=7
  simp [show yD.length=8 from rfl]; omega
 have hne:(vG j k).kids≠[]:=fun e=>by
  have:((((zD j).drop k++(zD j).take k).drop 1)).length=0:=by rw [show ((zD j).drop k++(zD j).take k).drop 1=(vG j k).kids from rfl,e]; rfl
  simp [show (zD j).length=8 from rfl] at this; omega
 have:=qNY m1 m2 rfl hne (by omega) (by omega) m3 (ws:=[]) (rest:=[]) rfl
 rw [if_neg (by rw [h7]; rintro ⟨-, h⟩; omega)] at this
 simpa using this
end Go.Proofs.YtlmedakhioiahaaGreatDoor
