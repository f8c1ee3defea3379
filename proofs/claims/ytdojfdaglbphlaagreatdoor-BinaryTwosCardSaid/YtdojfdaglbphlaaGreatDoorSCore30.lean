import Derived.Test.YtdojfdaglbphlaaGreatDoorK4
namespace Go.Proofs.YtdojfdaglbphlaaGreatDoor.Sy
open Go
set_option linter.unusedSimpArgs false
set_option linter.unusedVariables false
section
variable {P:Program} {T:Tab} {G:qR} {Q:Exit→St→Prop} {st:St}
theorem RowOf.drop {M:zG} {sz:Nat} {es:List PD} {news:List Value} (h:RowOf M sz es news) (n:Nat):RowOf M sz (es.drop n) (news.drop (n * sz)) where
 len:=by rw [List.length_drop,List.length_drop,h.len,Nat.sub_mul]
 one:=fun u hu=>h.one u (List.mem_of_mem_drop hu)
 elem:=fun i e he=>h.elem (n+i) e (by rwa [List.getElem?_drop] at he)
 get:=fun i e j d u he hd hu=>by
  rw [List.getElem?_drop] at he hu
  exact h.get (n+i) e j d u he hd (by rw [← hu]; congr 1; rw [Nat.add_mul]; omega)
theorem qTV {c : Ctx} {M : zG} {μ : Mu} {tmps : Array Value} {w : World} (hT : TOK P T) (r : Rel c M μ st tmps w) {t tx ty el : TypeId} (ht : wJ T t = some (.sl el)) {ti : TI} (hti : T el = some ti) {id : Nat} {e : TypeId} {es fs : List PD}
  (hb:wE id st.H=some (.row e ti.size es)) {u x:Value} {news:List Value} (hu:u=(μ id).val) (hs:Src P ti.size tx x fs.length news w) (hrow:RowOf M ti.size fs news) (hle:fs.length≤es.length) :
  ∃ w',(Builtin.copy_ #[t,tx] ty #[u,x]).run P w = .ok (.int .i64 fs.length) w'∧Rel c M μ { st with H:=wF id (.row e ti.size (fs++es.drop fs.length)) st.H } tmps w':=by
 have hd:=hT.sl ht
 obtain ⟨i,de,hi',_,_,hszi,_⟩:=hT.get hti
 have hso:∀ w:World,(sizeOf el).run P w = .ok ti.size w:=fun w=>by simp [sizeOf,typeInfo,hi',hszi]
 have hm:=zJ hb
 have hk:qO id st.H=true:=qJ.2 ⟨_,hm⟩
 rcases (r.box id _ hm).cells with ⟨rfl,h0,hv⟩ | ⟨b,cap,arr,h0,hv,hh,has,hlc,hcm,hone,hro⟩
 ·obtain rfl:fs=[]:=List.eq_nil_of_length_eq_zero (by simpa using hle)
  refine ⟨w, ?_, ?_⟩
  ·have h1:=hs.len w
   have h2:=hs.cells
   rw [hu,hv]
   simp at h1 h2
   simp [Builtin.copy_,run_underlying hd,hso,h1,h2,goInt,Result.andThen]
  have hsame:wF id (.row e ti.size []) st.H=st.H:=qFD hb
  simp only [List.length_nil,List.drop_nil,List.append_nil]
  rw [hsame]
  exact r
 have hnl:news.length=fs.length * ti.size:=hs.newsLen
 have hcap:fs.length * ti.size≤cap * ti.size:=Nat.mul_le_mul_right _ (by omega)
 have hst:=run_storeCells_at P b 0 e news 0 arr w hh (by simp only [Nat.add_zero,Nat.zero_add,hnl]; omega) hs.one
 simp only [Nat.add_zero,Nat.zero_add,List.take_zero,List.nil_append] at hst
 generalize hnew:(news++arr.toList.drop news.length).toArray=arr' at hst
 refine ⟨w.setRow b arr', ?_, ?_⟩
 ·have h1:=hs.len w
  have h2:=hs.cells
  have hmin:Nat.min fs.length es.length=fs.length:=Nat.min_eq_left hle
  rw [hu,hv]
  simp [Builtin.copy_,run_underlying hd,hso,h1,h2,hmin,hst,goInt,Result.andThen]
 refine r.write (w':=w.setRow b arr') hk h0 (xK w b _) ?_
 have hsz':arr'.size=arr.size:=by rw [← hnew]; simp [hnl]; omega
 have hR:RowOf M ti.size (fs++es.drop fs.length) (news++(arr.toList.take (es.length * ti.size)).drop (fs.length * ti.size)):=hrow.append (hro.drop fs.length)
 have hll:(fs++es.drop fs.length).length=es.length:=by simp; omega
 refine hR.box (cap:=cap) h0 (by rw [hll]; exact hv) (setRow_heap w b arr _ e (0,0) hh) (by rw [hsz']; exact has) (by rw [hll]; exact hlc) hcm (fun j u hu => ?_) ?_
 ·rw [← hnew,List.getElem?_toArray] at hu
  have hmem:=List.mem_of_getElem? hu
  rw [List.mem_append] at hmem
  rcases hmem with h | h
  ·exact hs.one u h
  obtain ⟨j',hj'⟩:=List.mem_iff_getElem?.1 (List.mem_of_mem_drop h)
  exact hone j' u (by simpa using hj')
 rw [← hnew,hll]
 simp only []
 have hel:fs.length * ti.size≤es.length * ti.size:=Nat.mul_le_mul_right _ hle
 rw [List.take_append,hnl,List.take_of_length_le (by omega),List.drop_take]
theorem zGM (hT : TOK P T) {o : Oper} {a x : Operand} {t tx el : TypeId} (ho : o.op = .call { callee := .builtin .copy, args := #[a, x], argTypes := #[t, tx] }) (ht : wJ T t = some (.sl el)) {ti : TI} (hti : T el = some ti) {p q : Prop} {id : Nat} {y : V}
  (ha:st.arg G a=(p,.ms id)) (hp:p) (hx:st.arg G x=(q,y)) (hq:q) {e sz:Nat} {es fs:List PD} (hb:wE id st.H=some (.row e sz es)) (hsz:sz=ti.size) (hsrc:qSC st (wJ T tx) y=some (sz,fs)) (hle:fs.length≤es.length) :
  zH P G o st (.p (.int .i64 fs.length)) { st with H:=wF id (.row e sz (fs++es.drop fs.length)) st.H }:=by
 subst hsz
 intro c M μ tmps w hg r
 have e1:=qF hg r ha hp
 have e2:=qF hg r hx hq
 generalize hu1:Act.eval ⟨tmps,[]⟩ a=u1 at e1
 generalize hu2:Act.eval ⟨tmps,[]⟩ x=u2 at e2
 obtain ⟨news,hsr,hrow⟩:=zEO hT r hsrc e2
 cases e1 with
 | ms hval hone =>
 obtain ⟨w',hrun,r'⟩:=qTV (ty:=o.type) hT r ht hti hb hval hsr hrow hle
 have er:(execOp (Act.eval ⟨tmps,[]⟩) o).run P w = .ok (.value (.int .i64 fs.length)) w':=by
  simp [execOp,ho,resolve,invoke,builtin,hu1,hu2,hrun]
 rw [er]
 have hb1:fs.length≤maxLen:=by
  rcases (r.box id _ (zJ hb)).cells with ⟨rfl,_,_⟩ | ⟨b,cap,arr,_,_,_,_,h1,h2,_,_⟩
  ·simp at hle; simp [hle,maxLen]
  omega
 exact ⟨M,μ,r',.p (Rd.intOf (by simp only [jF]; omega) (by simp only [jG]; simp [maxLen] at hb1; omega))⟩
theorem zSQ (hT : TOK P T) {o : Oper} {t el : TypeId} {x y : Operand} {p q : Prop} {id : Nat} {kd : IntKind} {z : Int} (n : Nat) (ho : o.op = .slice t x (some y) none none) (ht : wJ T t = some (.sl el)) {ti : TI} (hti : T el = some ti)
  (h1:st.arg G x=(p,.ms id)) (hp:p) (h2:st.arg G y=(q,.p (.int kd z))) (hq:q) {e sz:Nat} {es:List PD} (hb:wE id st.H=some (.row e sz es)) (hsz:sz=ti.size) (hn:n<es.length) (hz:z=(n:Int)):zH P G o st (.tl id n sz) st:=by
 subst hz; subst hsz
 intro c M μ tmps w hg r
 have hd:=hT.sl ht
 obtain ⟨i,de,hi',_,_,hszi,_⟩:=hT.get hti
 have hso:∀ w:World,(sizeOf el).run P w = .ok ti.size w:=fun w=>by simp [sizeOf,typeInfo,hi',hszi]
 have e1:=qF hg r h1 hp
 have e2:=(qF hg r h2 hq).p_inv
 generalize hu1:Act.eval ⟨tmps,[]⟩ x=u1 at e1
 generalize hu2:Act.eval ⟨tmps,[]⟩ y=u2 at e2
 cases e1 with
 | ms hval hone =>
 cases e2 with
 | int _ _ =>
 rcases (r.box id _ (zJ hb)).cells with ⟨rfl,h0,hv⟩ | ⟨b,cap,arr,h0,hv,hh,has,hlc,hcm,hone',hro⟩
 ·simp at hn
 rw [hv] at hval
 subst hval
 have hbd:=yB (P:=P) (isSlice:=true) (len:=es.length) (cap:=cap) (lo:=some (.int kd n)) (hi:=none) (l:=n) (h:=es.length) (.inr ⟨kd,rfl⟩) (.inl ⟨rfl,rfl⟩) (by omega) (by omega) (by omega) w
 have er1:(execOp (Act.eval ⟨tmps,[]⟩) o).run P w = .ok (.value (.slice (some ⟨b,n * ti.size,none⟩) (es.length-n) (cap-n))) w:=by
  simp at hbd
  have hne2:¬ cap=n:=by omega
  have hadd:(⟨b,0,none⟩:Addr).add (n * ti.size)=⟨b,n * ti.size,none⟩:=by rw [xH]; simp
  simp [execOp,ho,hu1,hu2,Instr.sliceAt,Instr.slice,run_underlying hd,hbd,hso,hne2,hadd]
 rw [er1]
 exact ⟨M,μ,r,.tl hv hn hlc⟩
theorem zBT (hT : TOK P T) {o : Oper} {a x : Operand} {t tx el ex : TypeId} (ho : o.op = .call { callee := .builtin .copy, args := #[a, x], argTypes := #[t, tx] }) (ht : wJ T t = some (.sl el)) (htx : wJ T tx = some (.sl ex)) {ti : TI} (hti : T el = some ti) {p q : Prop} {id id2 n : Nat}
  (ha:st.arg G a=(p,.ms id)) (hp:p) {sz:Nat} (hx:st.arg G x=(q,.tl id2 n sz)) (hq:q) {e e2:Nat} {es es2:List PD} (hb:wE id st.H=some (.row e sz es)) (hb2:wE id2 st.H=some (.row e2 sz es2)) (hsz:sz=ti.size) (hle:(es2.drop n).length≤es.length)
  {H':List (Nat × Box)} (hH:wF id (.row e sz (es2.drop n++es.drop (es2.drop n).length)) st.H=H'):zH P G o st (.p (.int .i64 (es2.drop n).length)) { st with H:=H' }:=by
 subst hH
 subst hsz
 intro c M μ tmps w hg r
 have hd:=hT.sl htx
 have e1:=qF hg r ha hp
 have e2:=qF hg r hx hq
 generalize hu1:Act.eval ⟨tmps,[]⟩ a=u1 at e1
 generalize hu2:Act.eval ⟨tmps,[]⟩ x=u2 at e2
 cases e1 with
 | ms hval hone =>
 cases e2 with
 | @tl _ _ _ b l cp hv2 hn hlc =>
 rcases (r.box id2 _ (zJ hb2)).cells with ⟨rfl,h0,hv⟩ | ⟨b',cap,arr,h0,hv,hh,has,hlc',hcm,hone',hro⟩
 ·rw [hv] at hv2; cases hv2
 rw [hv] at hv2
 cases hv2
 have hdl':(es2.drop n).length=es2.length-n:=by simp
 have hS:Src P ti.size tx (.slice (some ⟨b,n * ti.size,none⟩) (es2.length-n) (cp-n)) (es2.drop n).length ((arr.toList.take (es2.length * ti.size)).drop (n * ti.size)) w:=by
  rw [hdl']
  refine Src.ofSlice w hd _ _ _ _ (by rw [← hdl']; exact (hro.drop n).len) (fun j u hu => ?_) (hro.drop n).one
  rw [List.getElem?_drop,List.getElem?_take] at hu
  split at hu
  ·rw [xH,zR hh]; simpa using hu
  cases hu
 obtain ⟨w',hrun,r'⟩:=qTV (ty:=o.type) hT r ht hti hb hval hS (hro.drop n) hle
 have er:(execOp (Act.eval ⟨tmps,[]⟩) o).run P w = .ok (.value (.int .i64 (es2.drop n).length)) w':=by
  simp only [execOp,ho,resolve,invoke,builtin,Sem.run_bind,Sem.run_pure,Result.andThen_ok,List.map_toArray,List.map_cons,List.map_nil,hu1,hu2,hrun]
 rw [er]
 exact ⟨M,μ,r',.p (Rd.intOf (by simp only [jF]; omega) (by simp only [jG]; simp [maxLen] at hcm; omega))⟩
end
section
variable {P:Program} {T:Tab} {G:qR} {l:List Oper} {tss:List (List Nat)} {K:qIC→St→Prop} {st st' st0:St} {rest:List Oper} {ts:List Nat} {acc:qIC} {o:Oper}
theorem yA.y (Hs H' : List (Nat × Box)) (x : V) (q : Bool) (hgd : o.guard = none) (y : zH P G o ⟨yJ st.tmps ts, Hs.map (·.1), Hs, st.base⟩ x ⟨yJ st.tmps ts, Hs.map (·.1), H', st.base⟩) (hq : q = true → H' = Hs) (hsub : ∀ p ∈ Hs, p ∈ st.H)
  (hids:∀ i∈V.ids x++vY H',i∈Hs.map (·.1)) (hn:ndB st.H=true) (hns:ndB Hs=true) (hst:st.after o.dst ⟨x,Hs,H',Hs.map (·.1),[],q⟩=st') (k:yA P G st0 rest tss st' (acc++[(Sm.mk x Hs H' (Hs.map (·.1)) [] q).sum]) K):yA P G st0 (o::rest) (ts::tss) st acc K:=by
 subst hst
 obtain ⟨sms,st1,e,hk⟩:=k
 have hgood:∀ i∈V.ids x++vY H',i∈Hs.map (·.1)∨i∈([]:List Nat):=fun i hi => .inl (hids i hi)
 have hky:∀ i,qO i H'=true→i∈Hs.map (·.1)∨i∈([]:List Nat):=fun i hi => .inl (hids i (List.mem_append.2 (.inr (qBC hi))))
 refine ⟨⟨x,Hs,H',Hs.map (·.1),[],q⟩::sms,st1,.one hgd (yM hn) ⟨hq,hgood,hky,by simp⟩ hsub (fun c M μ st' tmps w R K hG rel hle hbox hnw k => ?_) e,by simpa using hk⟩
 exact qDG (s:=⟨x,Hs,H',Hs.map (·.1),[],q⟩) (small:=⟨yJ st.tmps ts,Hs.map (·.1),Hs,st.base⟩) (s':=⟨yJ st.tmps ts,Hs.map (·.1),H',st.base⟩) rfl (yM hns) rfl (fun i hi=>hi) hky hgood y c M μ st' tmps w R K hG rel hle hbox hnw k
end
end Go.Proofs.YtdojfdaglbphlaaGreatDoor.Sy
