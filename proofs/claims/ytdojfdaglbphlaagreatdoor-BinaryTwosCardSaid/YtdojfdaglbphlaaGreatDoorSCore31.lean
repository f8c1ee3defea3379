import Derived.Test.YtdojfdaglbphlaaGreatDoorSCore30
namespace Go.Proofs.YtdojfdaglbphlaaGreatDoor.Sy
open Go
set_option linter.unusedSimpArgs false
set_option linter.unusedVariables false
section
variable {P:Program} {T:Tab} {G:qR} {Q:Exit→St→Prop} {st:St}
theorem zBU (hT : TOK P T) {o : Oper} {s d e : TypeId} {x : Operand} (ho : o.op = .convert s d x) {p : Prop} {bs : List UInt8} (ha : st.arg G x = (p, .p (.str bs))) (hp : p) (hs : wJ T s = some .str) (hd : wJ T d = some (.sl e)) (he : wJ T e = some (.int .u8)) (id : Nat) (hf : st.fresh id = true)
  {H':List (Nat × Box)} (hH:(id,.brow e bs)::st.H=H'):zH P G o st (.ms id) { st with H:=H' }:=by
 subst hH
 intro c M μ tmps w hg r
 have e1:=(qF hg r ha hp).p_inv
 generalize hu1:Act.eval ⟨tmps,[]⟩ x=u1 at e1
 cases e1 with
 | @str ba _ hba hlen =>
 have hsz:ba.size=bs.length:=xI hba
 have hrun:(execOp (Act.eval ⟨tmps,[]⟩) o).run P w = .ok (.value (.slice (some ⟨w.heap.size,0,none⟩) ba.size (grownCap w ba.size 0 e))) (Lib.bytesWorld w e ba):=by
  simp [execOp,ho,hu1,Lib.run_convert_string_bytes w s d e ba (hT.str hs) (hT.sl hd) (hT.int he)]
 rw [hrun]
 have hgrow:Grows w (Lib.bytesWorld w e ba):=⟨rfl,rfl,rfl,by rw [Lib.bytesWorld_size]; omega,fun k hk=>Lib.bytesWorld_at_old w e ba k hk⟩
 have hcell:∀ (i:Nat) (c:UInt8),bs[i]?=some c→(Lib.bytesCells w e ba)[i]?=some (Value.int .u8 (c.toNat:Int)):=fun i c hc=>by
  have hi:i<bs.length:=(List.getElem?_eq_some_iff.1 hc).1
  have h1:=Lib.bytesWorld_cell w e ba i (by omega)
  rw [zR (Lib.bytesWorld_at_new w e ba)] at h1
  rw [h1,hba,List.getD_eq_getElem?_getD,hc]; rfl
 have hbl:bs.length≤(Lib.bytesCells w e ba).size:=by
  rcases Nat.eq_zero_or_pos bs.length with h0 | h0
  ·omega
  have hi:bs.length-1<bs.length:=by omega
  have:=hcell (bs.length-1) bs[bs.length-1] (List.getElem?_eq_getElem hi)
  have:=(Array.getElem?_eq_some_iff.1 this).1
  omega
 refine ⟨M,upd μ id ⟨some w.heap.size,.slice (some ⟨w.heap.size,0,none⟩) ba.size (grownCap w ba.size 0 e)⟩,r.newBox hf hgrow (fun b hb => ?_) ?_ rfl,.ms (by rw [qT]) rfl⟩
 ·cases hb; exact ⟨Nat.le_refl _,by rw [Lib.bytesWorld_size]; omega⟩
 exact .brow (cap:=grownCap w ba.size 0 e) (by rw [qT]) (by rw [qT,hsz]) (Lib.bytesWorld_at_new w e ba) hbl (Nat.le_refl _) (by rw [← hsz]; exact grownCap_ge _ _ _ _) (grownCap_le_maxLen _ _ _ _ (by omega)) hcell
theorem qNB (hT : TOK P T) {o : Oper} {t el : TypeId} {a i : Operand} (ho : o.op = .indexAddr t a i) (ht : wJ T t = some (.sl el)) {ti : TI} (hti : T el = some ti) (hsz : ti.size = 1) {p q : Prop} {id n : Nat} {kd : IntKind} {z : Int} (h1 : st.arg G a = (p, .ms id)) (hp : p) (h2 : st.arg G i = (q, .p (.int kd z))) (hq : q)
  {e:TypeId} {bs:List UInt8} (hb:wE id st.H=some (.brow e bs)) (hn:n<bs.length) (hz:z=(n:Int)):zH P G o st (.rptr id n 1 0) st:=by
 subst hz
 intro c M μ tmps w hg r
 have hd:=hT.sl ht
 obtain ⟨ie,de,hi',_,_,hsz',_⟩:=hT.get hti
 have e1:=qF hg r h1 hp
 have e2:=(qF hg r h2 hq).p_inv
 generalize hu1:Act.eval ⟨tmps,[]⟩ a=u1 at e1
 generalize hu2:Act.eval ⟨tmps,[]⟩ i=u2 at e2
 cases e1 with
 | ms hval _ =>
 cases e2
 have hbx:=r.box id _ (zJ hb)
 cases hbx with
 | @brow _ _ bk cap q arr h0 hv hh hbl haq hlc hm hc =>
 rw [hv] at hval
 subst hval
 have hso:(sizeOf el).run P w = .ok 1 w:=by simp [sizeOf,typeInfo,hi',hsz',hsz]
 have er:(execOp (Act.eval ⟨tmps,[]⟩) o).run P w = .ok (.value (.pointer (some ⟨bk,n * 1+0,none⟩))) w:=by
  simp [execOp,ho,hu1,hu2,Instr.indexAt,asIntOf,run_underlying hd,hn,hso,xH]
 rw [er]
 exact ⟨M,μ,r,.rptr h0⟩
theorem qUM (hT : TOK P T) {o : Oper} {t : TypeId} {a : Operand} (ho : o.op = .load t a) {ti : TI} (hti : T t = some ti) (hag : ti.k.agg = false) {p : Prop} {id n : Nat} (h1 : st.arg G a = (p, .rptr id n 1 0)) (hp : p)
  {e:TypeId} {bs:List UInt8} (hb:wE id st.H=some (.brow e bs)) {c0:UInt8} (hn:bs[n]?=some c0):zH P G o st (.p (.int .u8 c0.toNat)) st:=by
 intro c M μ tmps w hg r
 obtain ⟨it,d,hi,hd,hk,hsz,_⟩:=hT.get hti
 have e1:=qF hg r h1 hp
 generalize hu1:Act.eval ⟨tmps,[]⟩ a=u1 at e1
 cases e1 with
 | @rptr _ _ _ _ b hbk =>
 have hbx:=r.box id _ (zJ hb)
 cases hbx with
 | @brow _ _ bk cap q arr h0 hv hh hbl haq hlc hm hc =>
 rw [hbk] at h0
 cases h0
 have hcell:w.cell? ⟨b,n * 1+0,none⟩=some (Value.int .u8 (c0.toNat:Int)):=by rw [zR hh]; simpa using hc n c0 hn
 have:=jM hd hi b (n * 1+0) (fun _ => .int .u8 c0.toNat) w (fun j hj=>by
  rw [hk,hag] at hj
  have:j=0:=by simpa using hj
  subst this
  rw [Nat.add_zero]; simpa using hcell)
 rw [hk,hag] at this
 simp only [Nat.mul_one,Nat.add_zero] at this
 have er:(execOp (Act.eval ⟨tmps,[]⟩) o).run P w = .ok (.value (.int .u8 c0.toNat)) w:=by simp [execOp,ho,hu1,this]
 rw [er]
 exact ⟨M,μ,r,.p (zGB M c0)⟩
theorem qXC (hT : TOK P T) {o : Oper} {t : TypeId} {a x : Operand} (ho : o.op = .store t a x) {ti : TI} (hti : T t = some ti) (hs1 : ti.size = 1) {p q : Prop} {id n : Nat} (h1 : st.arg G a = (p, .rptr id n 1 0)) (hp : p) {z : Int} (h2 : st.arg G x = (q, .p (.int .u8 z))) (hq : q)
  {e:TypeId} {bs:List UInt8} (hb:wE id st.H=some (.brow e bs)) (hn:n<bs.length) (c0:UInt8) (hz:z=(c0.toNat:Int)) {H':List (Nat × Box)} (hH:wF id (.brow e (bs.set n c0)) st.H=H'):zH P G o st .dead { st with H:=H' }:=by
 subst hz; subst hH
 intro c M μ tmps w hg r
 obtain ⟨inf,d,hi,_,_,hszi,_⟩:=hT.get hti
 have e1:=qF hg r h1 hp
 have e2:=(qF hg r h2 hq).p_inv
 generalize hu1:Act.eval ⟨tmps,[]⟩ a=u1 at e1
 generalize hu2:Act.eval ⟨tmps,[]⟩ x=u2 at e2
 cases e2
 cases e1 with
 | @rptr _ _ _ _ b hbk =>
 have hm:=zJ hb
 have hbx:=r.box id _ hm
 cases hbx with
 | @brow _ _ bk cap q arr h0 hv hh hbl haq hlc hm' hc =>
 rw [hbk] at h0
 cases h0
 have hlt:n<arr.size:=by omega
 have hcell:∀ j,w.cell? ⟨b,j,none⟩=arr[j]?:=fun j=>zR hh
 have hst := run_storeCells_cells (P := P) b (n * 1 + 0) [Value.int .u8 c0.toNat] 0 w (fun j hj => by
   simp at hj; subst hj
   rw [hcell]; simp [hlt]) (fun j hj=>by
   simp at hj; subst hj
   simp only [World.frozen?,hh]
   obtain ⟨q1,q2⟩:=q
   simp only at haq ⊢
   simp; omega) (fun v hv=>by simp at hv; subst hv; rfl)
 have hb':(w.setCell ⟨b,n,none⟩ (.int .u8 c0.toNat)).heap[b]?=some (.cells (arr.setIfInBounds n (.int .u8 c0.toNat)) e q):=by
  have hlt2:b<w.heap.size:=(Array.getElem?_eq_some_iff.1 hh).1
  have hv2:w.heap[b] = .cells arr e q:=(Array.getElem?_eq_some_iff.1 hh).2
  simp [World.setCell,Array.getElem?_modify,hh]
 have er:(execOp (Act.eval ⟨tmps,[]⟩) o).run P w = .ok .skip (w.setCell ⟨b,n,none⟩ (.int .u8 c0.toNat)):=by
  have hs1':(sizeOf t).run P w = .ok 1 w:=by simp [sizeOf,typeInfo,hi,hszi,hs1]
  simp only [execOp,ho,hu1,hu2]
  rw [Sem.run_bind]
  have:(Instr.storeAt t (.pointer (some ⟨b,n * 1+0,none⟩)) (.int .u8 c0.toNat)).run P w = .ok () (w.setCell ⟨b,n,none⟩ (.int .u8 c0.toNat)):=by
   show (storeVar t ⟨b,n * 1+0,none⟩ (.int .u8 c0.toNat)).run P w=_
   unfold storeVar
   rw [Sem.run_bind,hs1']
   simp only [Result.andThen_ok]
   rw [if_neg (by simp [Value.cells])]
   simpa [World.setCells,Value.cells] using hst
  rw [this]
  rfl
 rw [er]
 have hbl2:(bs.set n c0).length=bs.length:=List.length_set
 refine ⟨M,μ,r.write (qJ.2 ⟨_,hm⟩) hbk ⟨rfl,rfl,rfl,by simp [World.setCell],fun k hk=>by simp [World.setCell,Array.getElem?_modify,Ne.symm hk]⟩ (.brow (cap:=cap) hbk (by rw [hbl2]; exact hv) hb' (by rw [hbl2]; simpa using hbl) (by simpa using haq) (by rw [hbl2]; exact hlc) hm' fun i c1 h1 => ?_),.dead⟩
 rw [Array.getElem?_setIfInBounds]
 rw [List.getElem?_set] at h1
 by_cases hi:n=i
 ·subst hi
  rw [if_pos rfl,if_pos hn] at h1
  cases h1
  rw [if_pos rfl,if_pos hlt]
 rw [if_neg hi] at h1
 rw [if_neg hi]
 exact hc i c1 h1
theorem zSR (hT : TOK P T) {o : Oper} {s d e : TypeId} {x : Operand} (ho : o.op = .convert s d x) (hs : wJ T s = some (.sl e)) (he : wJ T e = some (.int .u8)) (hd : wJ T d = some .str) {p : Prop} {id : Nat} (ha : st.arg G x = (p, .ms id)) (hp : p) {e' : TypeId} {bs : List UInt8} (hb : wE id st.H = some (.brow e' bs)) :
  zH P G o st (.p (.str bs)) st:=by
 intro c M μ tmps w hg r
 have e1:=qF hg r ha hp
 generalize hu1:Act.eval ⟨tmps,[]⟩ x=u1 at e1
 cases e1 with
 | ms hval _ =>
 have hbx:=r.box id _ (zJ hb)
 cases hbx with
 | @brow _ _ bk cap q arr h0 hv hh hbl haq hlc hm hc =>
 rw [hv] at hval
 subst hval
 have hrun:=run_convert_bytes_arg w s e (hT.sl hs) (hT.int he) bk 0 bs.length cap (bs.map fun b=>(b.toNat:Int)) (by simp) (fun i hi=>by
  have hi':i<bs.length:=hi
  rw [Nat.zero_add,zR hh,hc i bs[i] (by simp [hi'])]
  simp [List.getD_eq_getElem?_getD,hi']) d (hT.str hd)
 have er:(execOp (Act.eval ⟨tmps,[]⟩) o).run P w = .ok (.value (.string (strOfNums (bs.map fun b=>(b.toNat:Int))))) w:=by
  simp [execOp,ho,hu1,hrun]
 rw [er]
 refine ⟨M,μ,r,.p (.str ?_ (by omega))⟩
 rw [strOfNums_data]; simp [List.map_map,Function.comp_def]
theorem qC.stepYIf (ks : List Nat) (d : Nat) {st' : St} {orc : List PD} {ops : Array Oper} {o : Oper} {rest : List Oper} {x : V} {j : Nat} {pol : Bool} {b : Bool} (hgd : o.guard = some (j, pol)) (hd : (ops[j]?).bind (·.dst) = some d)
  (hb:decide (d<st.tmps.length)=true∧V.guards pol (st.tmps.getD d .dead)=some b) (h:b=true→zH P G o st x st) (hk:(st.put o.dst (.when b x)).keep ks=st') (k:qC P G ops Q rest st' orc):qC P G ops Q (o::rest) st orc :=
 zI.stepIf hgd hd (of_decide_eq_true hb.1) hb.2 h (zI.keep ks (hk ▸ k))
end
section
variable {P:Program} {T:Tab} {G:qR} {l:List Oper} {tss:List (List Nat)} {K:qIC→St→Prop} {st st' st0:St} {rest:List Oper} {ts:List Nat} {acc:qIC} {o:Oper}
theorem yA.yNew (Hs H' : List (Nat × Box)) (x : V) (new : List Nat) (hgd : o.guard = none) (y : zH P G o ⟨yJ st.tmps ts, Hs.map (·.1), Hs, st.base⟩ x ⟨yJ st.tmps ts, Hs.map (·.1), H', st.base⟩) (hsub : ∀ p ∈ Hs, p ∈ st.H)
  (hids:∀ i∈V.ids x++vY H',i∈Hs.map (·.1)∨i∈new) (hnew:∀ n∈new,st0.fresh n=true) (hn:ndB st.H=true) (hns:ndB Hs=true) (hst:st.after o.dst ⟨x,Hs,H',Hs.map (·.1),new,false⟩=st') (k:yA P G st0 rest tss st' (acc++[(Sm.mk x Hs H' (Hs.map (·.1)) new false).sum]) K):yA P G st0 (o::rest) (ts::tss) st acc K:=by
 subst hst
 obtain ⟨sms,st1,e,hk⟩:=k
 have hky:∀ i,qO i H'=true→i∈Hs.map (·.1)∨i∈new:=fun i hi=>hids i (List.mem_append.2 (.inr (qBC hi)))
 refine ⟨⟨x,Hs,H',Hs.map (·.1),new,false⟩::sms,st1,.one hgd (yM hn) ⟨fun h=>absurd h (by simp),hids,hky,hnew⟩ hsub (fun c M μ st' tmps w R K hG rel hle hbox hnw k => ?_) e,by simpa using hk⟩
 exact qDG (s:=⟨x,Hs,H',Hs.map (·.1),new,false⟩) (small:=⟨yJ st.tmps ts,Hs.map (·.1),Hs,st.base⟩) (s':=⟨yJ st.tmps ts,Hs.map (·.1),H',st.base⟩) rfl (yM hns) rfl (fun i hi=>hi) hky hids y c M μ st' tmps w R K hG rel hle hbox hnw k
end
end Go.Proofs.YtdojfdaglbphlaaGreatDoor.Sy
