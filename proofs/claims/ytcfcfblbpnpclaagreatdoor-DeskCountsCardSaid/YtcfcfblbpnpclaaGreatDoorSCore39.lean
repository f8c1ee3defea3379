import Derived.Test.YtcfcfblbpnpclaaGreatDoorSCore38
import Derived.Laws.LoneSync
import Derived.ChangeKeysEq
namespace Go.Proofs.YtcfcfblbpnpclaaGreatDoor.Sy
open Go
set_option linter.unusedSimpArgs false
set_option linter.unusedVariables false
def qFN (P:Program) (f:FuncId) (k:IntKind):Prop:=∀ (a:Addr) (x:Int) (w:World),w.cell? a=some (.int k x)→(callFunc f #[.pointer (some a)]).run P w = .ok (.value (.int k x)) w
def qGJ (P:Program) (f:FuncId):Prop:=∀ (a:Addr) (k:IntKind) (y:Int) (u:Value) (w:World),w.cell? a=some u→w.frozen? a=false→(callFunc f #[.pointer (some a),.int k y]).run P w = .ok (.value (.tuple #[])) (w.setCell a (.int k y))
def qLI (P:Program) (f:FuncId) (k:IntKind):Prop:=∀ (a:Addr) (x y s:Int) (w:World),w.cell? a=some (.int k x)→w.frozen? a=false→(Op.intArith .add k x y).run P w = .ok (.int k s) w →
 (callFunc f #[.pointer (some a),.int k y]).run P w = .ok (.value (.int k s)) (w.setCell a (.int k s))
section
variable {P:Program} {T:Tab} {G:qK} {c:Ctx} {M:qQ} {μ:Mu} {st:St} {tmps:Array Value} {w:World}
theorem yA (r : Rel c M μ st tmps w) {id b : Nat} (hbk : (μ id).blk = some b) {e : TypeId} {cells : List V} (hb : zC id st.H = some (.vars e cells)) {off : Nat} {x : V} (hx : cells[off]? = some x) :
  ∃ u,w.cell? ⟨b,off,none⟩=some u∧RV M μ u x∧w.frozen? ⟨b,off,none⟩=false:=by
 have hbx:=r.box id _ (qT hb)
 cases hbx with
 | @vars _ _ b' arr h0 h1 h2 h3 h4 =>
 rw [hbk] at h0
 cases h0
 have hlt:off<arr.size:=by have:=(List.getElem?_eq_some_iff.1 hx).1; omega
 exact ⟨arr[off],by rw [zF h1]; simp [hlt],h4 off _ x (by simp [hlt]) hx,by simp only [World.frozen?,h1]; simp⟩
theorem jK (r : Rel c M μ st tmps w) {id b : Nat} (hbk : (μ id).blk = some b) {e : TypeId} {cells : List V} (hb : zC id st.H = some (.vars e cells)) {off : Nat} (hoff : off < cells.length) {u : Value} {x : V} (hu : RV M μ u x) (hone : u.oneCell' = true) :
  Rel c M μ { st with H:=zH id (.vars e (cells.set off x)) st.H } tmps (w.setCell ⟨b,off,none⟩ u):=by
 have hm:=qT hb
 have hbx:=r.box id _ hm
 cases hbx with
 | @vars _ _ b' arr h0 h1 h2 h3 h4 =>
 rw [hbk] at h0
 cases h0
 have hlt:off<arr.size:=by omega
 have hb':(w.setCell ⟨b,off,none⟩ u).heap[b]?=some (.cells (arr.setIfInBounds off u) e (0,0)):=by simp [World.setCell,Array.getElem?_modify,h1]
 refine r.write (qF.2 ⟨_,hm⟩) hbk ⟨rfl,rfl,rfl,by simp [World.setCell],fun k hk=>by simp [World.setCell,Array.getElem?_modify,Ne.symm hk]⟩ (.vars hbk hb' (by simp [h2]) (fun i v hv => ?_) (fun i v y hv hy => ?_))
 ·rw [Array.getElem?_setIfInBounds] at hv
  split at hv
  ·rename_i hi
   first
    | (cases hv; exact hone)
    | (rw [if_pos hlt] at hv; cases hv; exact hone)
  exact h3 i v hv
 rw [Array.getElem?_setIfInBounds] at hv
 rw [List.getElem?_set] at hy
 by_cases hi:off=i
 ·subst hi
  rw [if_pos rfl,if_pos hlt] at hv
  rw [if_pos rfl,if_pos hoff] at hy
  cases hv; cases hy; exact hu
 rw [if_neg hi] at hv hy
 exact h4 i v y hv hy
end
section
variable {P:Program} {T:Tab} {G:qK} {st:St}
theorem qDQ {o : Oper} {f : FuncId} {k : IntKind} (he : qFN P f k) {x a : Operand} {tys : Array TypeId} (ho : o.op = .call { callee := .value x, args := #[a], argTypes := tys }) {p q : Prop} (hf : st.arg G x = (p, .p (.fn f))) (hp : p) {id off : Nat} (ha : st.arg G a = (q, .ptr id off)) (hq : q)
  {e:TypeId} {cells:List V} (hb:zC id st.H=some (.vars e cells)) {n:Int} (hx:cells[off]?=some (.p (.int k n))):qO P G o st (.p (.int k n)) st:=by
 intro c M μ tmps w hg rel
 have h1:=(qD hg rel hf hp).p_inv
 have h2:=qD hg rel ha hq
 generalize hu1:Act.eval ⟨tmps,[]⟩ x=u1 at h1
 generalize hu2:Act.eval ⟨tmps,[]⟩ a=u2 at h2
 cases h1
 cases h2 with
 | @ptr _ _ b hbk =>
 obtain ⟨u,hc,hr,_⟩:=yA rel hbk hb hx
 have hr2:=hr.p_inv
 cases hr2 with
 | int g1 g2 =>
 have e1:=he ⟨b,off,none⟩ n w hc
 have e:(execOp (Act.eval ⟨tmps,[]⟩) o).run P w = .ok (.value (.int k n)) w:=by
  simp only [execOp,ho,resolve,Deferred.ofValue,hu1,invoke]
  simpa [hu2] using e1
 rw [e]
 exact ⟨M,μ,rel,.p (.int g1 g2)⟩
theorem qGL {o : Oper} {f : FuncId} (he : qGJ P f) {x a y : Operand} {tys : Array TypeId} (ho : o.op = .call { callee := .value x, args := #[a, y], argTypes := tys }) {p q q2 : Prop} (hf : st.arg G x = (p, .p (.fn f))) (hp : p) {id off : Nat} (ha : st.arg G a = (q, .ptr id off)) (hq : q)
  {k:IntKind} {n:Int} (hy:st.arg G y=(q2,.p (.int k n))) (hq2:q2) {e:TypeId} {cells:List V} (hb:zC id st.H=some (.vars e cells)) (hoff:off<cells.length) {H':List (Nat × Box)} (hH:zH id (.vars e (cells.set off (.p (.int k n)))) st.H=H'):qO P G o st .dead { st with H:=H' }:=by
 subst hH
 intro c M μ tmps w hg rel
 have h1:=(qD hg rel hf hp).p_inv
 have h2:=qD hg rel ha hq
 have h3:=(qD hg rel hy hq2).p_inv
 generalize hu1:Act.eval ⟨tmps,[]⟩ x=u1 at h1
 generalize hu2:Act.eval ⟨tmps,[]⟩ a=u2 at h2
 generalize hu3:Act.eval ⟨tmps,[]⟩ y=u3 at h3
 cases h1
 cases h3 with
 | int g1 g2 =>
 cases h2 with
 | @ptr _ _ b hbk =>
 obtain ⟨u,hc,hr,hz⟩:=yA rel hbk hb (List.getElem?_eq_getElem hoff)
 have e1:=he ⟨b,off,none⟩ k n u w hc hz
 have e:(execOp (Act.eval ⟨tmps,[]⟩) o).run P w = .ok (.value (.tuple #[])) (w.setCell ⟨b,off,none⟩ (.int k n)):=by
  simp only [execOp,ho,resolve,Deferred.ofValue,hu1,invoke]
  simpa [hu2,hu3] using e1
 rw [e]
 exact ⟨M,μ,jK rel hbk hb hoff (.p (.int g1 g2)) rfl,.dead⟩
theorem qJS {o : Oper} {f : FuncId} (he : qLI P f .i64) {x a y : Operand} {tys : Array TypeId} (ho : o.op = .call { callee := .value x, args := #[a, y], argTypes := tys }) {p q q2 : Prop} (hf : st.arg G x = (p, .p (.fn f))) (hp : p) {id off : Nat} (ha : st.arg G a = (q, .ptr id off)) (hq : q)
  {n m:Int} (hy:st.arg G y=(q2,.p (.int .i64 m))) (hq2:q2) {e:TypeId} {cells:List V} (hb:zC id st.H=some (.vars e cells)) (hx:cells[off]?=some (.p (.int .i64 n))) (hs1 : -9223372036854775808≤n+m) (hs2:n+m≤9223372036854775807) {H':List (Nat × Box)} (hH:zH id (.vars e (cells.set off (.p (.int .i64 (n+m))))) st.H=H'):qO P G o st (.p (.int .i64 (n+m))) { st with H:=H' }:=by
 subst hH
 intro c M μ tmps w hg rel
 have h1:=(qD hg rel hf hp).p_inv
 have h2:=qD hg rel ha hq
 have h3:=(qD hg rel hy hq2).p_inv
 generalize hu1:Act.eval ⟨tmps,[]⟩ x=u1 at h1
 generalize hu2:Act.eval ⟨tmps,[]⟩ a=u2 at h2
 generalize hu3:Act.eval ⟨tmps,[]⟩ y=u3 at h3
 cases h1
 cases h3 with
 | int g1 g2 =>
 cases h2 with
 | @ptr _ _ b hbk =>
 obtain ⟨u,hc,hr,hz⟩:=yA rel hbk hb hx
 have hr2:=hr.p_inv
 cases hr2 with
 | int g3 g4 =>
 have hoff:off<cells.length:=(List.getElem?_eq_some_iff.1 hx).1
 have hw:(Op.intArith .add .i64 n m).run P w = .ok (.int .i64 (n+m)) w:=by simp [Op.intArith,uM .i64 (n+m) hs1 hs2]
 have e1:=he ⟨b,off,none⟩ n m (n+m) w hc hz hw
 have e:(execOp (Act.eval ⟨tmps,[]⟩) o).run P w = .ok (.value (.int .i64 (n+m))) (w.setCell ⟨b,off,none⟩ (.int .i64 (n+m))):=by
  simp only [execOp,ho,resolve,Deferred.ofValue,hu1,invoke]
  simpa [hu2,hu3] using e1
 rw [e]
 have hrd:Rd M (Value.int .i64 (n+m)) (.int .i64 (n+m)):=Rd.intOf hs1 hs2
 exact ⟨M,μ,jK rel hbk hb hoff (.p hrd) rfl,.p hrd⟩
theorem qJJ {o:Oper} {ty:TypeId} {x:Operand} (ho:o.op = .unOp .xor ty x) {p:Prop} {n:Int} (h1:st.arg G x=(p,.p (.int .u32 n))) (hp:p) {z:Int} (hz:IntKind.u32.wrap (BitVec.ofInt IntKind.u32.bits 4294967295 ^^^ BitVec.ofInt IntKind.u32.bits n).toNat=z):qO P G o st (.p (.int .u32 z)) st:=by
 subst hz
 intro c M μ tmps w hg rel
 have h2:=(qD hg rel h1 hp).p_inv
 generalize hu1:Act.eval ⟨tmps,[]⟩ x=u1 at h2
 cases h2
 have e:(execOp (Act.eval ⟨tmps,[]⟩) o).run P w = .ok (.value (.int .u32 (IntKind.u32.wrap (BitVec.ofInt IntKind.u32.bits 4294967295 ^^^ BitVec.ofInt IntKind.u32.bits n).toNat))) w:=by
  simp only [execOp,ho,hu1]
  rfl
 rw [e]
 exact ⟨M,μ,rel,.p (Rd.wrap M .u32 _)⟩
theorem qSL {M:qQ} {arr:Array Value} {a b c:Int} (h:Rd M (.agg arr) (.agg [.int .i64 a,.int .i64 b,.int .i64 c])):arr = #[.int .i64 a,.int .i64 b,.int .i64 c]:=by
 cases h with
 | agg h1 h2 h3 =>
 have g:∀ (i:Nat) (z:Int),([PD.int .i64 a,.int .i64 b,.int .i64 c]:List PD)[i]?=some (.int .i64 z)→i<3→arr[i]?=some (.int .i64 z):=fun i z hz hi=>by
  have hu:arr[i]?=some (arr[i]'(by rw [h1]; exact hi)):=by simp [show i<arr.size by rw [h1]; exact hi]
  have hin:∀ u,Rd M u (.int .i64 z)→u = .int .i64 z:=fun u h=>by cases h; rfl
  rw [hu,hin _ (h3 i _ _ hu hz)]
 apply Array.ext
 ·simpa using h1
 intro i hi1 hi2
 have hi:i<3:=by simpa using hi2
 have e:∀ z,arr[i]?=some z→arr[i]=z:=fun z h=>by rw [Array.getElem?_eq_getElem hi1] at h; exact Option.some.inj h
 rcases (show i=0∨i=1∨i=2 by omega) with rfl | rfl | rfl
 ·exact e _ (g 0 a rfl hi)
 ·exact e _ (g 1 b rfl hi)
 exact e _ (g 2 c rfl hi)
theorem qJN (hT : TOK P T) {o : Oper} {t el ty : TypeId} {x y : Operand} (ho : o.op = .binOp .neq t x y ty) (ht : zE T t = some (.ar 3 el)) (hel : zE T el = some (.int .i64)) (hg : P.eqGuardType P.depth t = false) (hc : P.cellsOf el = 1) {p q : Prop} {a0 a1 a2 b0 b1 b2 : Int}
  (h1:st.arg G x=(p,.p (.agg [.int .i64 a0,.int .i64 a1,.int .i64 a2]))) (hp:p) (h2:st.arg G y=(q,.p (.agg [.int .i64 b0,.int .i64 b1,.int .i64 b2]))) (hq:q) :
  qO P G o st (.p (.bool (!decide (a0=b0∧a1=b1∧a2=b2)))) st:=by
 intro c M μ tmps w hgk rel
 have hda:=hT.ar ht
 have hde:=hT.int hel
 obtain ⟨ti,hti⟩:∃ ti,T el=some ti:=by
  unfold zE at hel
  cases h:T el with
  | none=>rw [h] at hel; cases hel
  | some ti=>exact ⟨ti,rfl⟩
 obtain ⟨ie,de,hi',hde2,_,_,_⟩:=hT.get hti
 have e1:=(qD hgk rel h1 hp).p_inv
 have e2:=(qD hgk rel h2 hq).p_inv
 generalize hu1:Act.eval ⟨tmps,[]⟩ x=u1 at e1
 generalize hu2:Act.eval ⟨tmps,[]⟩ y=u2 at e2
 obtain ⟨xs,rfl⟩:∃ xs,u1 = .agg xs:=by cases e1; exact ⟨_,rfl⟩
 obtain ⟨ys,rfl⟩:∃ ys,u2 = .agg ys:=by cases e2; exact ⟨_,rfl⟩
 have hxs:=qSL e1
 have hys:=qSL e2
 subst hxs; subst hys
 have hpt:∀ (cs:Array Value) (k:Nat) (v:Value),cs[k]?=some v→(part el cs k).run P w = .ok v w:=fun cs k v hv=>vQ hde rfl cs k v hv w
 have hq1:∀ a b:Int,(Op.equalIn 9999 el (.int .i64 a) (.int .i64 b)).run P w = .ok (decide (a=b)) w:=fun a b=>by
  rw [run_equalIn_int (P:=P) w 9998 el _ _ _ _ hde]
  congr 1
 have he:(Op.equalIn 10000 t (.agg #[.int .i64 a0,.int .i64 a1,.int .i64 a2]) (.agg #[.int .i64 b0,.int .i64 b1,.int .i64 b2])).run P w = .ok (decide (a0=b0∧a1=b1∧a2=b2)) w:=by
  rw [run_equalIn_array w 9999 _ _ hda hi',hc]
  have hr:List.range 3=[0,1,2]:=rfl
  rw [hr]
  simp only [Op.eqItems,Sem.run_bind,Nat.mul_one]
  rw [hpt _ 0 (.int .i64 a0) rfl,Result.andThen_ok,hpt _ 0 (.int .i64 b0) rfl,Result.andThen_ok,hq1,Result.andThen_ok]
  by_cases h0:a0=b0
  ·simp only [h0,decide_true,Bool.not_true,if_neg (Bool.false_ne_true),Sem.run_bind]
   rw [hpt _ 1 (.int .i64 a1) rfl,Result.andThen_ok,hpt _ 1 (.int .i64 b1) rfl,Result.andThen_ok,hq1,Result.andThen_ok]
   by_cases h1:a1=b1
   ·simp only [h1,decide_true,Bool.not_true,if_neg (Bool.false_ne_true),Sem.run_bind]
    rw [hpt _ 2 (.int .i64 a2) rfl,Result.andThen_ok,hpt _ 2 (.int .i64 b2) rfl,Result.andThen_ok,hq1,Result.andThen_ok]
    by_cases h2:a2=b2 <;> simp [h2]
   simp [h1]
  simp [h0]
 have hgd:=run_eqGuard_agg (P:=P) w .neq t x y #[.int .i64 a0,.int .i64 a1,.int .i64 a2] #[.int .i64 b0,.int .i64 b1,.int .i64 b2] hg
 have hb:(binOp .neq t (.agg #[.int .i64 a0,.int .i64 a1,.int .i64 a2]) (.agg #[.int .i64 b0,.int .i64 b1,.int .i64 b2])).run P w = .ok (.bool (!decide (a0=b0∧a1=b1∧a2=b2))) w:=by
  rw [run_neq_struct,he]; rfl
 have er:(execOp (Act.eval ⟨tmps,[]⟩) o).run P w = .ok (.value (.bool (!decide (a0=b0∧a1=b1∧a2=b2)))) w:=by
  simp only [execOp,ho,hu1,hu2]
  simp only [Sem.run_bind,hgd,Result.andThen_ok,hb]
  rfl
 rw [er]
 exact ⟨M,μ,rel,.p (.bool _)⟩
end
end Go.Proofs.YtcfcfblbpnpclaaGreatDoor.Sy
