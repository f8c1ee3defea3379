import Derived.Test.YtdojfdaglbphlaaGreatDoorM4
import Derived.Test.YtdojfdaglbphlaaGreatDoorM3
import Derived.Test.YtdojfdaglbphlaaGreatDoorM1
import Derived.Maps.RangeRun
import Derived.Laws.RangeString
import Derived.Lib.RuneCount
import Derived.Lib.ValidU
import Derived.Lib.LaidU8T
import Derived.Lib.MapLaws
import Derived.Lib.ValidLaws
import Derived.RangeFuncBox
import Derived.RangeFuncLeaves
import Derived.Shelf.Abstract
import Derived.WalkKit
import Derived.OwnWalkIn
import Derived.TacticsInMore
import Derived.LoopNIn
import Derived.LoopIn
import Derived.Maps.AppendAt
import Derived.Shelf.Sort.Plain
import Derived.Test.YtdojfdaglbphlaaGreatDoorProg
import Derived.Shelf.Unicode.DecodeAny
import Derived.Shelf.Small.Strs
import Derived.Shelf.Strings.Repeat
import Derived.Shelf.Strings.Builder1
import Derived.Shelf.Slices.In.SortNone
import Derived.Sort.OwnSorted
namespace Go.Proofs.YtdojfdaglbphlaaGreatDoor
open Sy Go
set_option maxRecDepth 100000
set_option linter.unusedSimpArgs false
set_option linter.unusedVariables false
structure Dc where
 neg : Bool
 digits : List UInt8
 scale : Int
 deriving DecidableEq
@[simp] def Dc.enc (d : Dc) : PD := .agg [.bool d.neg, .str d.digits, .int .i64 d.scale]
inductive Val where
 | mk (kind mask : Int) (num : Dc) (text : List UInt8) (keys : List (List UInt8)) (kids : List Val) (code : Int)
def Val.kind : Val → Int
 | .mk k _ _ _ _ _ _ => k
def Val.mask : Val → Int
 | .mk _ m _ _ _ _ _ => m
def Val.num : Val → Dc
 | .mk _ _ n _ _ _ _ => n
def Val.text : Val → List UInt8
 | .mk _ _ _ t _ _ _ => t
def Val.keys : Val → List (List UInt8)
 | .mk _ _ _ _ ks _ _ => ks
def Val.kids : Val → List Val
 | .mk _ _ _ _ _ vs _ => vs
def Val.code : Val → Int
 | .mk _ _ _ _ _ _ c => c
@[simp] theorem Val.kind_mk (k m : Int) (n : Dc) (t : List UInt8) (ks : List (List UInt8)) (vs : List Val) (c : Int) : (Val.mk k m n t ks vs c).kind = k := rfl
@[simp] theorem Val.mask_mk (k m : Int) (n : Dc) (t : List UInt8) (ks : List (List UInt8)) (vs : List Val) (c : Int) : (Val.mk k m n t ks vs c).mask = m := rfl
@[simp] theorem Val.num_mk (k m : Int) (n : Dc) (t : List UInt8) (ks : List (List UInt8)) (vs : List Val) (c : Int) : (Val.mk k m n t ks vs c).num = n := rfl
@[simp] theorem Val.text_mk (k m : Int) (n : Dc) (t : List UInt8) (ks : List (List UInt8)) (vs : List Val) (c : Int) : (Val.mk k m n t ks vs c).text = t := rfl
@[simp] theorem Val.keys_mk (k m : Int) (n : Dc) (t : List UInt8) (ks : List (List UInt8)) (vs : List Val) (c : Int) : (Val.mk k m n t ks vs c).keys = ks := rfl
@[simp] theorem Val.kids_mk (k m : Int) (n : Dc) (t : List UInt8) (ks : List (List UInt8)) (vs : List Val) (c : Int) : (Val.mk k m n t ks vs c).kids = vs := rfl
@[simp] theorem Val.code_mk (k m : Int) (n : Dc) (t : List UInt8) (ks : List (List UInt8)) (vs : List Val) (c : Int) : (Val.mk k m n t ks vs c).code = c := rfl
mutual
def Val.enc : Val → PD
 | .mk k m n t ks vs c => .agg [.int .i64 k, .int .u64 m, .bool n.neg, .str n.digits, .int .i64 n.scale, .str t, .sl 1 (ks.map PD.str), .sl 9 (Val.encL vs), .int .i64 c]
def Val.encL : List Val → List PD
 | [] => []
 | v :: vs => Val.enc v :: Val.encL vs
end
def dc0 : Dc := ⟨false, [], 0⟩
def nullV : Val := .mk 1 0 dc0 [] [] [] 0
theorem Val.encL_map : ∀ l, Val.encL l = l.map Val.enc
 | [] => by simp only [Val.encL, List.map_nil]
 | v :: vs => by simp only [Val.encL, List.map_cons, Val.encL_map vs]
@[simp] theorem Val.enc_def (v : Val) : v.enc = .agg [.int .i64 v.kind, .int .u64 v.mask, .bool v.num.neg, .str v.num.digits, .int .i64 v.num.scale, .str v.text, .sl 1 (v.keys.map PD.str), .sl 9 (v.kids.map Val.enc), .int .i64 v.code] := by
 cases v; simp only [Val.enc, Val.encL_map, Val.kind, Val.mask, Val.num, Val.text, Val.keys, Val.kids, Val.code]
mutual
def Val.sz : Val → Nat
 | .mk _ _ _ _ _ vs _ => 1 + Val.szL vs
def Val.szL : List Val → Nat
 | [] => 0
 | v :: vs => Val.sz v + Val.szL vs
end
theorem Val.szL_mem {k : Val} : ∀ {l : List Val}, k ∈ l → Val.sz k ≤ Val.szL l
 | v :: vs, h => by
  simp only [Val.szL]
  rcases List.mem_cons.1 h with rfl | h
  ·omega
  ·have := Val.szL_mem h; omega
theorem Val.sz_kid {v k : Val} (h : k ∈ v.kids) : Val.sz k < Val.sz v := by
 cases v; simp only [Val.kids] at h; simp only [Val.sz]; have := Val.szL_mem h; omega
theorem Val.induct {p : Val → Prop} (h : ∀ v, (∀ k ∈ v.kids, p k) → p v) (v : Val) : p v := by
 have key : ∀ n v, Val.sz v = n → p v := by
  intro n
  induction n using Nat.strongRecOn with
  | _ n ih => intro v hv; exact h v fun k hk => ih _ (hv ▸ Val.sz_kid hk) k rfl
 exact key _ v rfl
theorem Val.ext {a b : Val} (h1 : a.kind = b.kind) (h2 : a.mask = b.mask) (h3 : a.num = b.num) (h4 : a.text = b.text) (h5 : a.keys = b.keys) (h6 : a.kids = b.kids) (h7 : a.code = b.code) : a = b := by
 cases a; cases b; simp_all [Val.kind, Val.mask, Val.num, Val.text, Val.keys, Val.kids, Val.code]
theorem Dc.ext' {a b : Dc} (h1 : a.neg = b.neg) (h2 : a.digits = b.digits) (h3 : a.scale = b.scale) : a = b := by cases a; cases b; simp_all
end Go.Proofs.YtdojfdaglbphlaaGreatDoor
namespace Go.Proofs.YtdojfdaglbphlaaGreatDoor.Sy
open Go
section
variable {P : Program} {T : Tab} {G : qS} {Q : Exit → St → Prop} {st st' : St}
theorem Turned.refl (w : World) (b : Nat) : Turned w w b := ⟨rfl, rfl, rfl, rfl, fun _ _ => rfl⟩
theorem Rel.beginBox {c : Ctx} {M : qY} {μ : Mu} {st : St} {tmps : Array Value} {w : World} (r : Rel c M μ st tmps w) {id k j : Nat} {e : TypeId} {cells : List V} (hb : zQ id st.H = some (.vars e cells)) (hj : cells[j]? = some .nilsl)
  (hf : st.fresh k = true) (e' : TypeId) (sz : Nat) : ∃ μ', Rel c M μ' { st with H := zR id (.vars e (cells.set j (.ms k))) ((k, .row e' sz []) :: st.H) } tmps w := by
 have hm := zA hb
 have hk : qO id st.H = true := qH.2 ⟨_, hm⟩
 have hne : id ≠ k := by
  rintro rfl
  have := (St.fresh_spec hf).2.2.2
  rw [hk] at this; cases this
 have r1 := r.adopt (l := ⟨none, .slice none 0 0⟩) hf (fun b hb => by cases hb) (bx := .row e' sz []) (.rowN (by rw [qR]) (by rw [qR]))
 have hbx := r1.box id _ (List.mem_cons_of_mem _ hm)
 cases hbx with
 | @vars _ _ b arr h0 hh hs ho hc =>
 refine ⟨_, r1.write (id := id) (b := b) (w' := w) (bx := .vars e (cells.set j (.ms k))) (by simp [qO, hk]) h0 (Turned.refl w b) (.vars h0 hh (by simpa using hs) ho fun i u x hu hx => ?_)⟩
 rw [List.getElem?_set] at hx
 split at hx
 ·rename_i hji
  subst hji
  split at hx
  ·cases hx
   have := hc j u .nilsl hu hj
   cases this
   exact .ms (by rw [qR]) rfl
  ·cases hx
 ·exact hc i u x hu hx
theorem AW.beginBox {c : Code} (id k j : Nat) (e' : TypeId) (sz : Nat) {e : TypeId} {cells : List V} (hb : zQ id st.H = some (.vars e cells)) (hj : cells[j]? = some .nilsl) (hf : st.fresh k = true)
  (h : ({ st with H := zR id (.vars e (cells.set j (.ms k))) ((k, .row e' sz []) :: st.H) } : St) = st') (k : AW P G c Q st') : AW P G c Q st := fun x M μ tmps w hg r => by
 obtain ⟨μ', r'⟩ := r.beginBox hb hj hf e' sz
 exact k x M μ' tmps w hg (h ▸ r')
theorem qE.beginBox {ops : Array Oper} {l : List Oper} {orc : List PD} (id k j : Nat) (e' : TypeId) (sz : Nat) {e : TypeId} {cells : List V} (hb : zQ id st.H = some (.vars e cells)) (hj : cells[j]? = some .nilsl) (hf : st.fresh k = true)
  (h : ({ st with H := zR id (.vars e (cells.set j (.ms k))) ((k, .row e' sz []) :: st.H) } : St) = st') (k : qE P G ops Q l st' orc) : qE P G ops Q l st orc := fun x M μ tmps w hg r => by
 obtain ⟨μ', r'⟩ := r.beginBox hb hj hf e' sz
 exact k x M μ' tmps w hg (h ▸ r')
theorem AW.pinsTo {c : Code} (ps : List Nat) (hs : ∀ i ∈ ps, i ∈ st.pins) (h : ({ st with pins := ps } : St) = st') (k : AW P G c Q st') : AW P G c Q st := fun x M μ tmps w hg r =>
 k x M μ tmps w hg (h ▸ ⟨r.mem, r.ext, r.old, r.slots, fun i hi => r.pins i (hs i hi), r.box, r.nodup, r.inj, r.own, r.size, r.below⟩)
theorem qE.stepKIf (ks : List Nat) (d : Nat) {orc : List PD} {ops : Array Oper} {o : Oper} {rest : List Oper} {x : V} {st1 : St} {j : Nat} {pol : Bool} (hgd : o.guard = some (j, pol)) (hd : (ops[j]?).bind (·.dst) = some d)
  (h : qZ P G o st x st1) (hb : decide (d < st.tmps.length) = true ∧ V.guards pol (st.tmps.getD d .dead) = some true) (hk : (st1.put o.dst (.when true x)).keep ks = st') (k : qE P G ops Q rest st' orc) : qE P G ops Q (o :: rest) st orc :=
 zB.stepIfT hgd hd (of_decide_eq_true hb.1) hb.2 h (zB.keep ks (hk ▸ k))
theorem AW.fillE {c : Code} (id : Nat) (ns : List (Option Nat)) (h : st.fill id ns = st') (k : AW P G c Q st') : AW P G c Q st := fun x M μ tmps w hg r => k x M μ tmps w hg (h ▸ r.fill id ns)
end
set_option linter.unusedSimpArgs false
section
variable {P : Program} {T : Tab} {G : qS} {Q : Exit → St → Prop} {st st' : St}
def uM (ks : List (List UInt8)) (vs : List V) (s : List UInt8) (v : V) : List V := if s ∈ ks then vs.set (ks.idxOf s) v else vs ++ [v]
theorem qSY (hT : TOK P T) {o : Oper} {t el : TypeId} {x y : Operand} (ho : o.op = .slice t x none (some y) none) (ht : zW T t = some (.sl el)) {p q : Prop} {id : Nat} {kd : IntKind} {z : Int} (n : Nat)
  (h1 : st.arg G x = (p, .ms id)) (hp : p) (h2 : st.arg G y = (q, .p (.int kd z))) (hq : q) {e sz : Nat} {es : List PD} {ti : TI} (hti : T el = some ti) (hb : zQ id st.H = some (.row e sz es)) (hn : n ≤ es.length) (hz : z = (n : Int)) :
  qZ P G o st (.ms id) { st.kill id with H := (id, .row e sz (es.take n)) :: (st.kill id).H } := by
 subst hz
 intro c M μ tmps w hg r
 have hd := hT.sl ht
 obtain ⟨i, de, hi', _, _, hsz, _⟩ := hT.get hti
 have hso : (sizeOf el).run P w = .ok ti.size w := by simp [sizeOf, typeInfo, hi', hsz]
 have e1 := qF hg r h1 hp
 have e2 := (qF hg r h2 hq).p_inv
 generalize hu1 : Act.eval ⟨tmps, []⟩ x = u1 at e1
 generalize hu2 : Act.eval ⟨tmps, []⟩ y = u2 at e2
 cases e1 with
 | ms hval hone =>
 cases e2 with
 | int _ _ =>
 have hm := zA hb
 have hk : qO id st.H = true := qH.2 ⟨_, hm⟩
 have rk := r.kill id
 have hbx := r.box id _ hm
 cases hbx with
 | rowN h0 hv =>
  rw [hv] at hval
  subst hval
  obtain rfl : n = 0 := by simpa using hn
  have hbd := wH (P := P) (isSlice := true) (len := 0) (cap := 0) (lo := none) (hi := some (.int kd 0)) (l := 0) (h := 0) (.inl ⟨rfl, rfl⟩) (.inr ⟨kd, rfl⟩) (by omega) (by omega) (by omega) w
  have er : (execOp (Act.eval ⟨tmps, []⟩) o).run P w = .ok (.value (.slice none 0 0)) w := by
   simp at hbd
   simp [execOp, ho, hu1, hu2, Instr.sliceAt, Instr.slice, run_underlying hd, hbd, hso]
  rw [er]
  exact ⟨M, upd μ id ⟨none, .slice none 0 0⟩, rk.adopt (l := ⟨none, .slice none 0 0⟩) (uQ st id) (fun b hb => by cases hb) (.rowN (by rw [qR]) (by rw [qR])), .ms (by rw [qR]) rfl⟩
 | @row _ _ _ b cap arr h0 hv hh has hlc hcm hone' hz hcc =>
  rw [hv] at hval
  subst hval
  have hbd := wH (P := P) (isSlice := true) (len := es.length) (cap := cap) (lo := none) (hi := some (.int kd n)) (l := 0) (h := n) (.inl ⟨rfl, rfl⟩) (.inr ⟨kd, rfl⟩) (by omega) (by omega) (by omega) w
  have er : (execOp (Act.eval ⟨tmps, []⟩) o).run P w = .ok (.value (.slice (some ⟨b, 0, none⟩) n cap)) w := by
   simp at hbd
   have ha : (if cap = 0 then (some (⟨b, 0, none⟩ : Addr)) else (some (⟨b, 0, none⟩ : Addr)).map (·.add (0 * ti.size))) = some ⟨b, 0, none⟩ := by
    split
    ·rfl
    ·simp [Addr.add]
   simp [execOp, ho, hu1, hu2, Instr.sliceAt, Instr.slice, run_underlying hd, hbd, hso]
   try simpa using ha
  rw [er]
  have hown := r.own id b hk h0
  refine ⟨M, upd μ id ⟨some b, .slice (some ⟨b, 0, none⟩) n cap⟩, rk.adopt (l := ⟨some b, .slice (some ⟨b, 0, none⟩) n cap⟩) (uQ st id) (fun b' hb' => ?_) (.row (cap := cap) (by rw [qR]) (by rw [qR]; simp [Nat.min_eq_left hn]) hh has (by simp; omega) hcm hone' (fun i e' he => hz i e' ?_) fun i e' j d u he hd hu => hcc i e' j d u ?_ hd hu), .ms (by rw [qR]) rfl⟩
  ·cases hb'; exact ⟨hown.1, hown.2.1, hown.2.2, qLX r hk h0⟩
  ·rw [List.getElem?_take] at he; split at he
   ·exact he
   ·cases he
  ·rw [List.getElem?_take] at he; split at he
   ·exact he
   ·cases he
theorem qDG {id : Nat} {b : Box} : ∀ {H : List (Nat × Box)}, zQ id H = some b → zR id b H = H
 | [], _ => rfl
 | (i, c) :: r, h => by
  simp only [zQ] at h
  simp only [zR]
  split at h
  ·rename_i e; cases h; rw [if_pos e]
  ·rename_i e; rw [if_neg e, qDG h]
theorem qNV (z : Array Value) (n : Nat) : Builtin.zeroCells z n = madeCells z (n * z.size) := rfl
theorem qE.clearFrom {ops : Array Oper} {o1 o2 : Oper} {rest : List Oper} {orc : List PD} (hT : TOK P T) (ks : List Nat) {t el d : Nat} {x y : Operand} {p q : Prop} {id : Nat} {kd : IntKind} {z : Int} (n : Nat) (ho1 : o1.op = .slice t x (some y) none none) (hd1 : o1.dst = some d) (hg1 : o1.guard = none)
  (ho2 : o2.op = .call { callee := .builtin .clear, args := #[.tmp d], argTypes := #[t] }) (hd2 : o2.dst = none) (hg2 : o2.guard = none) (ht : zW T t = some (.sl el)) {ti : TI} (hti : T el = some ti) {zs : List V} (hzs : ti.zero.cells = some zs) (hzl : zs.length = ti.size) {e0 : PD} (hfit : V.fitsL [] zs e0.cells)
  (h1 : st.arg G x = (p, .ms id)) (hp : p) (h2 : st.arg G y = (q, .p (.int kd z))) (hq : q) {e sz : Nat} {es : List PD} (hb : zQ id st.H = some (.row e sz es)) (hsz : sz = ti.size) (hn : n ≤ es.length) (hz : z = (n : Int)) (hdl : d < st.tmps.length)
  (k : qE P G ops Q rest ((({ st with H := zR id (.row e sz (es.take n ++ List.replicate (es.length - n) e0)) st.H } : St).put (some d) .dead).keep ks) orc) : qE P G ops Q (o1 :: o2 :: rest) st orc := by
 subst hz; subst hsz
 intro c M μ tmps w hg r
 have hd := hT.sl ht
 obtain ⟨i, de, hi', _, _, hszi, _⟩ := hT.get hti
 have hso : (sizeOf el).run P w = .ok ti.size w := by simp [sizeOf, typeInfo, hi', hszi]
 have e1 := qF hg r h1 hp
 have e2 := (qF hg r h2 hq).p_inv
 generalize hu1 : Act.eval ⟨tmps, []⟩ x = u1 at e1
 generalize hu2 : Act.eval ⟨tmps, []⟩ y = u2 at e2
 have hts : d < tmps.size := by rw [r.slots.1]; exact hdl
 cases e1 with
 | ms hval hone =>
 cases e2 with
 | int _ _ =>
 have hm := zA hb
 have hk : qO id st.H = true := qH.2 ⟨_, hm⟩
 have key : ∀ (v1 : Value) (w1 : World), (execOp (Act.eval ⟨tmps, []⟩) o1).run P w = .ok (.value v1) w → (Builtin.clear_ #[t] o2.type #[v1]).run P w = .ok (.tuple #[]) w1 →
   Rel c M μ { st with H := zR id (.row e ti.size (es.take n ++ List.replicate (es.length - n) e0)) st.H } tmps w1 → wpList P ops (Post c Q) (o1 :: o2 :: rest) ⟨tmps, []⟩ w := by
  intro v1 w1 er1 er2 r1
  refine wpList_plain hg1 fun K hK => kL (next := fun v w' => v = v1 ∧ w' = w) (by rw [er1]; exact ⟨rfl, rfl⟩) ?_
  rintro u w' ⟨rfl, rfl⟩
  apply hK
  rw [Act.put_tmps, hd1]
  simp only
  have hev : Act.eval ⟨tmps.setIfInBounds d u, []⟩ (.tmp d) = u := by simp [Act.eval, hts]
  have er : (execOp (Act.eval ⟨tmps.setIfInBounds d u, []⟩) o2).run P w' = .ok (.value (.tuple #[])) w1 := by
   simp [execOp, ho2, resolve, invoke, builtin, hev, er2]
  refine wpList_plain hg2 fun K hK => kL (next := fun v w'' => v = .tuple #[] ∧ w'' = w1) (by rw [er]; exact ⟨rfl, rfl⟩) ?_
  rintro u2 w'' ⟨rfl, rfl⟩
  apply hK
  rw [Act.put_tmps, hd2]
  simp only
  exact zB.keep ks k c M μ _ _ hg (r1.put (.dead) (some d))
 have hbx := r.box id _ hm
 cases hbx with
 | rowN h0 hv =>
  rw [hv] at hval
  subst hval
  obtain rfl : n = 0 := by simpa using hn
  have hbd := wH (P := P) (isSlice := true) (len := 0) (cap := 0) (lo := some (.int kd 0)) (hi := none) (l := 0) (h := 0) (.inr ⟨kd, rfl⟩) (.inl ⟨rfl, rfl⟩) (by omega) (by omega) (by omega) w
  refine key (.slice none 0 0) w ?_ (by simp [Builtin.clear_, run_underlying hd]) ?_
  ·simp at hbd
   simp [execOp, ho1, hu1, hu2, Instr.sliceAt, Instr.slice, run_underlying hd, hbd, hso]
  ·rw [show (List.take 0 ([] : List PD) ++ List.replicate (([] : List PD).length - 0) e0) = [] by rfl]
   have hsame : zR id (.row e ti.size []) st.H = st.H := qDG hb
   rw [hsame]
   exact r
 | @row _ _ _ b cap arr h0 hv hh has hlc hcm hone' hz hcc =>
  rw [hv] at hval
  subst hval
  have hbd := wH (P := P) (isSlice := true) (len := es.length) (cap := cap) (lo := some (.int kd n)) (hi := none) (l := n) (h := es.length) (.inr ⟨kd, rfl⟩) (.inl ⟨rfl, rfl⟩) (by omega) (by omega) (by omega) w
  obtain ⟨zv, hzr, hzc, _⟩ := qAZ hT hti hzs M μ w
  by_cases hne : n = es.length
  ·subst hne
   refine key (.slice (if cap = es.length then some ⟨b, 0, none⟩ else (some (⟨b, 0, none⟩ : Addr)).map (·.add (es.length * ti.size))) 0 (cap - es.length)) w ?_ ?_ ?_
   ·simp at hbd
    simp [execOp, ho1, hu1, hu2, Instr.sliceAt, Instr.slice, run_underlying hd, hbd, hso]
   ·split <;> simp [Builtin.clear_, run_underlying hd]
   ·rw [List.take_length, Nat.sub_self, List.replicate_zero, List.append_nil]
    have := r.write (w' := w) (bx := .row e ti.size es) hk h0 (Turned.refl w b) (.row h0 hv hh has hlc hcm hone' hz hcc)
    exact this
  ·have hlt : n < es.length := by omega
   have hzs' : zv.cells.size = ti.size := by rw [hzc.size, hzl]
   have hmr := qLU hzc hzl hfit (es.length - n)
   have hsum : n * ti.size + (es.length - n) * ti.size = es.length * ti.size := by rw [← Nat.add_mul]; congr 1; omega
   have hcap : es.length * ti.size ≤ cap * ti.size := Nat.mul_le_mul_right _ hlc
   have hml : (madeCells zv.cells ((es.length - n) * ti.size)).toList.length = (es.length - n) * ti.size := by rw [hmr.len, List.length_replicate]
   have hst := run_storeCells_at P b (n * ti.size) e (madeCells zv.cells ((es.length - n) * ti.size)).toList 0 arr w hh (by simp only [Nat.add_zero, hml]; omega) hmr.one
   simp only [Nat.add_zero] at hst
   generalize hnew : (arr.toList.take (n * ti.size) ++ (madeCells zv.cells ((es.length - n) * ti.size)).toList ++ arr.toList.drop (n * ti.size + (madeCells zv.cells ((es.length - n) * ti.size)).toList.length)).toArray = arr' at hst
   have hrow : RowOf M ti.size es (arr.toList.take (es.length * ti.size)) := by
    rcases (r.box id _ hm).cells with ⟨rfl, h, _⟩ | ⟨b', cap', arr2, g0, gv, gh, _, _, _, _, gr⟩
    ·rw [h0] at h; cases h
    ·rw [h0] at g0; cases g0
     rw [hh] at gh; cases gh
     exact gr
   refine key (.slice (some ⟨b, n * ti.size, none⟩) (es.length - n) (cap - n)) (w.setRow b arr') ?_ ?_ ?_
   ·simp at hbd
    have hne2 : ¬ cap = n := by omega
    have hadd : (⟨b, 0, none⟩ : Addr).add (n * ti.size) = ⟨b, n * ti.size, none⟩ := by rw [jD]; simp
    simp [execOp, ho1, hu1, hu2, Instr.sliceAt, Instr.slice, run_underlying hd, hbd, hso, hne2, hadd]
   ·obtain ⟨m, hm'⟩ : ∃ m, es.length - n = m + 1 := ⟨es.length - n - 1, by omega⟩
    rw [hm'] at hst ⊢
    have hzm := qNV zv.cells (m + 1)
    rw [hzs'] at hzm
    simp only [Builtin.clear_, Sem.run_bind]
    simp [run_underlying hd, hzr, hzm, hst, Result.andThen]
   ·refine r.write (w' := w.setRow b arr') hk h0 (jH w b _) ?_
    have hsz' : arr'.size = arr.size := by rw [← hnew]; simp [hml]; omega
    have hR : RowOf M ti.size (es.take n ++ List.replicate (es.length - n) e0) (arr.toList.take (n * ti.size) ++ (madeCells zv.cells ((es.length - n) * ti.size)).toList) := by
     refine RowOf.append ?_ hmr
     refine ⟨by rw [List.length_take, List.length_take, Nat.min_eq_left hn, Nat.min_eq_left (by rw [Array.length_toList, has]; exact Nat.mul_le_mul_right _ (by omega))], fun u hu => hrow.one u ?_, fun j e' he => hrow.elem j e' ?_, fun j e' l d' u he hd' hu => hrow.get j e' l d' u ?_ hd' ?_⟩
     ·have : arr.toList.take (n * ti.size) = (arr.toList.take (es.length * ti.size)).take (n * ti.size) := by rw [List.take_take, Nat.min_eq_left (by omega)]
      rw [this] at hu; exact List.mem_of_mem_take hu
     ·rw [List.getElem?_take] at he; split at he
      ·exact he
      ·cases he
     ·rw [List.getElem?_take] at he; split at he
      ·exact he
      ·cases he
     ·rw [List.getElem?_take] at hu ⊢
      split at hu
      ·rw [if_pos (by omega)]; exact hu
      ·cases hu
    have hll : (es.take n ++ List.replicate (es.length - n) e0).length = es.length := by simp; omega
    refine hR.box (cap := cap) h0 (by rw [hll]; exact hv) (setRow_heap w b arr _ e (0, 0) hh) (by rw [hsz']; exact has) (by rw [hll]; exact hlc) hcm (fun j u hu => ?_) ?_
    ·rw [← hnew, List.getElem?_toArray] at hu
     have hmem := List.mem_of_getElem? hu
     rw [List.append_assoc, List.mem_append, List.mem_append] at hmem
     rcases hmem with h | h | h
     ·obtain ⟨j', hj'⟩ := List.mem_iff_getElem?.1 (List.mem_of_mem_take h)
      exact hone' j' u (by simpa using hj')
     ·exact hmr.one u h
     ·obtain ⟨j', hj'⟩ := List.mem_iff_getElem?.1 (List.mem_of_mem_drop h)
      exact hone' j' u (by simpa using hj')
    ·rw [← hnew, hll]
     simp only [List.append_assoc]
     rw [← List.append_assoc, List.take_append_of_le_length (by simp [hml]; omega), List.take_of_length_le (by simp [hml]; omega)]
end
end Go.Proofs.YtdojfdaglbphlaaGreatDoor.Sy
namespace Go.Proofs.YtdojfdaglbphlaaGreatDoor
open Sy Go
set_option maxRecDepth 100000
set_option maxHeartbeats 4000000
set_option linter.unusedSimpArgs false
set_option linter.unusedVariables false
variable {G : qS}
theorem cloneK_ax (ks : List (List UInt8)) (hn : ks.length ≤ 1000000) : AX Tryz.prog G 187 [.p (.sl 1 (ks.map PD.str))] [] (.ms 905) [] [(905, .row 9 1 (ks.map PD.str))] := by
 refine AX.introU tok 900 Tryz.func187 (by kernel_rfl) rfl rfl ?_
 simp only [Tryz.f187, qK, List.map_cons, List.map_nil]
 refine rgn [] [[0]] ?_
 refine op1 tok ?_
 refine qA ?_
 refine AW.seq ?_
 refine rgn [] [[]] ?_
 refine op1 tok ?_
 refine qV ?_
 refine qE.nilEq tok [0, 4] rfl rfl (by conv => lhs; simp) trivial rfl ?_
 intro bn1 hbn1
 refine qE.same (by conv => lhs; simp) ?_
 refine qE.nil ?_
 refine cnd ?_ ?_
 ·intro h4
  try simp at h4
  have hks : ks = [] := by
   by_cases h : ks = []
   ·exact h
   ·rw [hbn1 (by simpa using h)] at h4; cases h4
  subst hks
  refine rgn [] [[]] ?_
  refine op1 tok ?_
  refine qA ?_
  refine AW.beginE 2 905 9 1 (by simp) (by simp) (by conv => lhs; simp) ?_
  exact AW.ret ⟨.inr rfl, _, _, by (conv => lhs; simp), trivial, by simp, by simp, by simp, by simp⟩
 ·intro h4
  try simp at h4
  refine AW.skip ?_
  refine rgn [] [[], [], [], [2]] ?_
  iterate 4 refine op1 tok ?_
  refine qA ?_
  exact AW.ret ⟨.inr rfl, _, _, by (conv => lhs; simp), trivial, by simp, by simp, by simp, by simp⟩
theorem qQF (ks : List (List UInt8)) (hn : ks.length ≤ 1000000) : AR Tryz.prog G 187 [.sl 1 (ks.map PD.str)] 9 1 (ks.map PD.str) := AR.of_AX (k := 905) (by simpa using cloneK_ax ks hn)
theorem cloneV_ax (vs : List Val) (hn : vs.length ≤ 1000000) : AX Tryz.prog G 188 [.p (.sl 9 (vs.map Val.enc))] [] (.ms 905) [] [(905, .row 31 9 (vs.map Val.enc))] := by
 refine AX.introU tok 900 Tryz.func188 (by kernel_rfl) rfl rfl ?_
 simp only [Tryz.f188, qK, List.map_cons, List.map_nil]
 refine rgn [] [[0]] ?_
 refine op1 tok ?_
 refine qA ?_
 refine AW.seq ?_
 refine rgn [] [[]] ?_
 refine op1 tok ?_
 refine qV ?_
 refine qE.nilEq tok [0, 4] rfl rfl (by conv => lhs; simp) trivial rfl ?_
 intro bn1 hbn1
 refine qE.same (by conv => lhs; simp) ?_
 refine qE.nil ?_
 refine cnd ?_ ?_
 ·intro h4
  try simp at h4
  have hks : vs = [] := by
   by_cases h : vs = []
   ·exact h
   ·rw [hbn1 (by simpa using h)] at h4; cases h4
  subst hks
  refine rgn [] [[]] ?_
  refine op1 tok ?_
  refine qA ?_
  refine AW.beginE 2 905 31 9 (by simp) (by simp) (by conv => lhs; simp) ?_
  exact AW.ret ⟨.inr rfl, _, _, by (conv => lhs; simp), trivial, by simp, by simp, by simp, by simp⟩
 ·intro h4
  try simp at h4
  refine AW.skip ?_
  refine rgn [] [[], [], [], [2]] ?_
  iterate 4 refine op1 tok ?_
  refine qA ?_
  exact AW.ret ⟨.inr rfl, _, _, by (conv => lhs; simp), trivial, by simp, by simp, by simp, by simp⟩
theorem qQD (vs : List Val) (hn : vs.length ≤ 1000000) : AR Tryz.prog G 188 [.sl 9 (vs.map Val.enc)] 31 9 (vs.map Val.enc) := AR.of_AX (k := 905) (by simpa using cloneV_ax vs hn)
theorem qMP {s : List UInt8} {pos : Nat} (h : pos < s.length) : 1 ≤ (uS s pos).2 := Lib.decode_width_pos _ _ (by simpa [ByteArray.size] using h)
theorem qCL {s : List UInt8} {pos : Nat} (h : pos < s.length) (ha : (s.getD pos 0).toNat < 128) : uS s pos = ((s.getD pos 0).toNat, 1) := by
 have hs : pos < (⟨s.toArray⟩ : ByteArray).size := by simpa [ByteArray.size] using h
 have e : (⟨s.toArray⟩ : ByteArray)[pos]'hs = s.getD pos 0 := by simp [List.getD_eq_getElem?_getD, h]; rfl
 unfold uS
 rw [decode_ascii _ _ hs (by rw [e]; exact ha), e]
theorem decL_big {s : List UInt8} {pos : Nat} (h : pos < s.length) (ha : 128 ≤ (s.getD pos 0).toNat) : 128 ≤ (uS s pos).1 := by
 have e : ((⟨s.toArray⟩ : ByteArray).get! (pos + 0)).toNat = (s.getD pos 0).toNat := by
  simp [ByteArray.get!, List.getD_eq_getElem?_getD, h]
 unfold uS Utf8.decode
 simp only [e]
 rw [if_neg (by omega)]
 split
 ·split
  ·simp only [ge_iff_le] at *; omega
  ·simp [Utf8.runeError]
 ·split
  ·split
   ·rename_i hc; simp only [ge_iff_le, Bool.and_eq_true, decide_eq_true_eq] at hc; omega
   ·simp [Utf8.runeError]
  ·split
   ·split
    ·rename_i hc; simp only [ge_iff_le, Bool.and_eq_true, decide_eq_true_eq] at hc; omega
    ·simp [Utf8.runeError]
   ·simp [Utf8.runeError]
def qMD (p : Int → Bool) (s : List UInt8) : Nat → Nat → Int
 | 0, _ => -1
 | f + 1, pos => if pos < s.length then (if p (uS s pos).1 then (pos : Int) else qMD p s f (pos + (uS s pos).2)) else -1
def qAR (p : Int → Bool) (s : List UInt8) : Int := qMD p s (s.length + 1) 0
theorem qPR (p : Int → Bool) (s : List UInt8) : ∀ (f g pos : Nat), s.length < pos + f → s.length < pos + g → qMD p s f pos = qMD p s g pos
 | 0, 0, _, _, _ => rfl
 | 0, g + 1, pos, h, _ => by simp only [qMD]; rw [if_neg (by omega)]
 | f + 1, 0, pos, _, h => by simp only [qMD]; rw [if_neg (by omega)]
 | f + 1, g + 1, pos, hf, hg => by
  simp only [qMD]
  by_cases h : pos < s.length
  ·rw [if_pos h, if_pos h]
   split
   ·rfl
   ·have := qMP h
    exact qPR p s f g _ (by omega) (by omega)
  ·rw [if_neg h, if_neg h]
def qCW (p : Int → Bool) (s : List UInt8) (pos : Nat) : Int := qMD p s (s.length + 1 - pos) pos
theorem qPS {p : Int → Bool} {s : List UInt8} {pos : Nat} (h : ¬ pos < s.length) : qCW p s pos = -1 := by
 unfold qCW; cases hf : s.length + 1 - pos with
 | zero => rfl
 | succ f => simp only [qMD]; rw [if_neg h]
theorem qID {p : Int → Bool} {s : List UInt8} {pos : Nat} (h : pos < s.length) (hp : p (uS s pos).1 = true) : qCW p s pos = pos := by
 unfold qCW; rw [show s.length + 1 - pos = (s.length - pos) + 1 by omega]; simp only [qMD]; rw [if_pos h, if_pos hp]
theorem qME {p : Int → Bool} {s : List UInt8} {pos : Nat} (h : pos < s.length) (hp : p (uS s pos).1 = false) : qCW p s pos = qCW p s (pos + (uS s pos).2) := by
 unfold qCW; rw [show s.length + 1 - pos = (s.length - pos) + 1 by omega]; simp only [qMD]
 have := qMP h
 rw [if_pos h, if_neg (by simp [hp])]; exact qPR p s _ _ _ (by omega) (by omega)
theorem qPQ (p : Int → Bool) (s : List UInt8) : qAR p s = qCW p s 0 := by simp [qAR, qCW]
theorem qJJ {p : Int → Bool} (hbig : ∀ n : Int, 128 ≤ n → p n = true) (s : List UInt8) : ∀ (f pos : Nat), f = s.length - pos → pos ≤ s.length → qCW p s pos = if (s.drop pos).all (fun b => !p b.toNat) then -1 else ((pos + ((s.drop pos).takeWhile fun b => !p b.toNat).length : Nat) : Int)
 | 0, pos, hf, hp => by
  rw [qPS (by omega), List.drop_eq_nil_of_le (by omega)]; simp
 | f + 1, pos, hf, hp => by
  have hlt : pos < s.length := by omega
  have hd : s.drop pos = s.getD pos 0 :: s.drop (pos + 1) := by
   rw [List.drop_eq_getElem_cons hlt]; congr 1; simp [List.getD_eq_getElem?_getD, hlt]
  rw [hd]
  have hda0 := fun h => qCL (s := s) (pos := pos) hlt h
  have hdb0 := fun h => decL_big (s := s) (pos := pos) hlt h
  clear hd
  generalize s.getD pos 0 = c at *
  by_cases ha : c.toNat < 128
  ·have hda := hda0 ha
   cases hpb : p ((c.toNat : Nat) : Int) with
   | true => rw [qID hlt (by rw [hda]; exact hpb)]; simp [hpb]
   | false =>
    rw [qME hlt (by rw [hda]; exact hpb), hda, qJJ hbig s f (pos + 1) (by omega) (by omega)]
    simp only [List.all_cons, hpb, Bool.not_false, Bool.true_and, List.takeWhile_cons, if_true, List.length_cons]
    split <;> first | rfl | (congr 1; omega)
  ·have hb := hdb0 (by omega)
   rw [qID hlt (hbig _ (by omega))]
   have : p ((c.toNat : Nat) : Int) = true := hbig _ (by omega)
   simp [this]
theorem qRU {p : Int → Bool} (hbig : ∀ n : Int, 128 ≤ n → p n = true) (s : List UInt8) : qAR p s = if s.all (fun b => !p b.toNat) then -1 else (((s.takeWhile fun b => !p b.toNat).length : Nat) : Int) := by
 rw [qPQ, qJJ hbig s _ 0 rfl (by omega)]; simp
theorem qRT (s : List UInt8) (g : FuncId) (p : Int → Bool) (hg : ∀ n : Int, AFn Tryz.prog G g [.int .i32 n] (.bool (p n))) : AFn Tryz.prog G 248 [.str s, .fn g, .bool true] (.int .i64 (qAR p s)) := by
 refine AFn.introU tok Tryz.func248 (by kernel_rfl) rfl rfl ?_
 simp only [Tryz.f248, qK, List.map_cons, List.map_nil]
 refine rgn [] [[0, 1, 2]] ?_
 refine op1 tok ?_
 refine qA ?_
 refine AW.seq ?_
 refine rgn [] [[], [1, 2, 10]] ?_
 iterate 2 refine op1 tok ?_
 refine qA ?_
 refine AW.block ?_
 refine AW.loop (α := Nat) (fun pos => qCW p s pos = qAR p s) (fun pos => ⟨qW 21 [(1, .p (.fn g)), (2, .p (.bool true)), (10, .it 10)], [], [(10, .iter s pos)], 0⟩) (fun pos => s.length - pos) (0) (qPQ p s).symm ⟨qB (by simp), rfl, by simp, by simp⟩ ?_
 rintro pos hi
 have hpos : pos < s.length → 1 ≤ (uS s pos).2 := qMP
 by_cases hs2 : pos < s.length
 ·
  refine rgn [.bool true] [[], []] ?_
  iterate 2 refine op1 tok ?_ (hv := by first | with_reducible exact True.intro | (simpa using hs2; done) | omega | simp | (simp +contextual; omega))
  refine qA ?_
  refine AW.seq ?_
  refine cnd ?_ ?_
  ·intro h12
   try simp at h12
   refine AW.skip ?_
   refine AW.block ?_
   refine rgn [] [[], [], [], [1, 2, 7, 8, 10]] ?_
   iterate 4 refine op1 tok ?_
   refine qA ?_
   refine rgn [.nilp, .bool (p (uS s pos).1)] [[], [], [], [], [1, 2, 7, 10, 19]] ?_
   iterate 5 refine op1 tok ?_ (hv := by first | with_reducible exact True.intro | (exact hg _; done) | omega | simp | (simp +contextual; omega))
   refine qA ?_
   refine cnd ?_ ?_
   ·intro h19
    try simp at h19
    have hI : qAR p s = pos := by rw [← hi, qID hs2 (by simpa using h19)]
    refine rgn [] [[], [6]] ?_
    iterate 2 refine op1 tok ?_
    refine qA ?_
    exact AW.ret ⟨.inr rfl, _, _, by (conv => lhs; simp), trivial, by simp [hI]⟩
   ·intro h19
    try simp at h19
    have hnx : qCW p s (pos + (uS s pos).2) = qAR p s := by rw [← qME hs2 (by simpa using h19)]; exact hi
    refine AW.skip ?_
    exact ⟨pos + (uS s pos).2, hnx, by have := hpos hs2; omega, qB (by simp), rfl, by simp, by simp⟩
  ·intro h12
   try simp at h12
 ·
  refine rgn [.bool false] [[], []] ?_
  iterate 2 refine op1 tok ?_ (hv := by first | with_reducible exact True.intro | (simpa using hs2; done) | omega | simp | (simp +contextual; omega))
  refine qA ?_
  refine AW.seq ?_
  refine cnd ?_ ?_
  ·intro h12
   try simp at h12
  ·intro h12
   try simp at h12
   refine AW.exit ?_
   simp
   refine rgn [] [[]] ?_
   refine op1 tok ?_
   refine qA ?_
   exact AW.ret ⟨.inr rfl, _, _, by (conv => lhs; simp), trivial, by simp [← hi, qPS hs2]⟩
theorem qSR (s : List UInt8) (g : FuncId) (p : Int → Bool) (hg : ∀ n : Int, AFn Tryz.prog G g [.int .i32 n] (.bool (p n))) : AFn Tryz.prog G 226 [.str s, .fn g] (.int .i64 (qAR p s)) := by
 refine AFn.introU tok Tryz.func226 (by kernel_rfl) rfl rfl ?_
 simp only [Tryz.f226, qK, List.map_cons, List.map_nil]
 refine rgn [] [[0, 1]] ?_
 refine op1 tok ?_
 refine qA ?_
 refine rgn [.nilp, .int .i64 (qAR p s)] [[], [], [7], [4]] ?_
 iterate 4 refine op1 tok ?_ (hv := by first | with_reducible exact True.intro | (exact qRT s g p hg; done) | omega | simp | (simp +contextual; omega))
 refine qA ?_
 exact AW.ret ⟨.inr rfl, _, _, by (conv => lhs; simp), trivial, by simp⟩
def kG (n : Int) : Bool := decide (48 ≤ n) && decide (n ≤ 57)
def qG (b : UInt8) : Bool := kG b.toNat
def qBT (D : List UInt8) : Nat := D.foldl (fun n c => n * 10 + (c.toNat - 48)) 0
theorem qVL (n : Int) : AFn Tryz.prog G 52 [.int .u8 n] (.bool (kG n)) := by
 refine AFn.introU tok Tryz.func52 (by kernel_rfl) rfl rfl ?_
 simp only [Tryz.f52, qK, List.map_cons, List.map_nil]
 refine rgn [] [[0]] ?_
 refine op1 tok ?_
 refine qA ?_
 refine rgn [] [[], [], [], [], [5, 7], [], [2]] ?_
 iterate 3 refine op1 tok ?_
 iterate 2 refine op2 tok ?_
 iterate 2 refine op1 tok ?_
 refine qA ?_
 exact AW.ret ⟨.inr rfl, _, _, by (conv => lhs; simp), trivial, by simp [kG]⟩
def qM (s : List UInt8) (i : Nat) : Int := ((s.getD i 0).toNat : Int)
theorem kT {s : List UInt8} {i : Nat} (h : i < s.length) : s[i]? = some (s.getD i 0) := by simp [List.getD_eq_getElem?_getD, h]
def zO (s : List UInt8) (k : Nat) : Nat := ((s.drop k).takeWhile fun b => kG b.toNat).length
theorem vT {p : UInt8 → Bool} : ∀ {l : List UInt8} {n : Nat}, n ≤ (l.takeWhile p).length → ((n < (l.takeWhile p).length) ↔ ∃ b, l[n]? = some b ∧ p b = true)
 | [], n, h => by simp at h; subst h; simp
 | a :: l, n, h => by
  rw [List.takeWhile_cons] at h ⊢
  by_cases ha : p a = true
  ·rw [if_pos ha] at h ⊢
   cases n with
   | zero => simp [ha]
   | succ n => simpa using vT (l := l) (n := n) (by simpa using h)
  ·rw [if_neg ha] at h ⊢
   simp at h; subst h
   simp [ha]
theorem qRB {s : List UInt8} {k n : Nat} (h : n ≤ zO s k) : n < zO s k ↔ (k + n < s.length ∧ kG (qM s (k + n)) = true) := by
 unfold zO at h ⊢
 rw [vT h]
 constructor
 ·rintro ⟨b, hb, hd⟩
  rw [List.getElem?_drop] at hb
  have := (List.getElem?_eq_some_iff.1 hb).1
  refine ⟨this, ?_⟩
  rw [qM, List.getD_eq_getElem?_getD, hb]; exact hd
 ·rintro ⟨h1, h2⟩
  exact ⟨s.getD (k + n) 0, by rw [List.getElem?_drop]; exact kT h1, h2⟩
theorem qRC (s : List UInt8) (k : Nat) : zO s k ≤ s.length := by
 unfold zO
 have := (List.takeWhile_sublist (l := s.drop k) fun b : UInt8 => kG b.toNat).length_le
 simp at this; omega
theorem run_ev (s : List UInt8) (k : Nat) (hs : s.length ≤ 1000000) (hk : k ≤ 1000000) : AFn Tryz.prog G 72 [.str s, .int .i64 k] (.int .i64 (zO s k)) := by
 refine AFn.introU tok Tryz.func72 (by kernel_rfl) rfl rfl ?_
 simp only [Tryz.f72, qK, List.map_cons, List.map_nil]
 refine rgn [] [[0, 1]] ?_
 refine op1 tok ?_
 refine qA ?_
 refine rgn [] [[]] ?_
 refine op1 tok ?_
 refine qA ?_
 refine AW.seq ?_
 refine AW.block ?_
 refine AW.loop (α := Nat) (fun n => n ≤ zO s k) (fun n => ⟨qW 23 [(0, .p (.str s)), (1, .p (.int .i64 k)), (5, .p (.int .i64 n))], [], [], 0⟩) (fun n => zO s k - n) (0) (by omega) ⟨qB (by simp), rfl, by simp, by simp⟩ ?_
 rintro n hn
 have hrl := qRC s k
 have hlt := qRB hn
 have hd := qVL (G := G) (qM s (k + n))
 have hix : k + n < s.length → s[((k : Int) + n).toNat]? = some (s.getD (k + n) 0) := fun h => by rw [show ((k : Int) + n).toNat = k + n by omega]; exact kT h
 refine AW.seq ?_
 refine rgn [.int .u8 (qM s (k + n)), .nilp, .bool (kG (qM s (k + n)))] [[], [], [], [], [], [0, 1, 5, 11], [], [], [], [], [], [0, 1, 5, 12, 17], [], [0, 1, 5, 19]] ?_
 iterate 7 refine op1 tok ?_ (hv := by first | with_reducible exact True.intro | (first | exact fun h => ⟨h, by omega, _, hix (by omega), rfl⟩ | simp [hd]; done) | omega | simp | (simp +contextual; omega))
 iterate 6 refine op2 tok ?_ (hv := by first | with_reducible exact True.intro | (first | exact fun h => ⟨h, by omega, _, hix (by omega), rfl⟩ | simp [hd]; done) | omega | simp | (simp +contextual; omega))
 refine op1 tok ?_ (hv := by first | with_reducible exact True.intro | (first | exact fun h => ⟨h, by omega, _, hix (by omega), rfl⟩ | simp [hd]; done) | omega | simp | (simp +contextual; omega))
 refine qA ?_
 refine cnd ?_ ?_
 ·intro h19
  try simp at h19
  have hlt' := hlt.2 ⟨by omega, h19.2⟩
  refine AW.skip ?_
  refine AW.block ?_
  refine rgz [] [[], [], [0, 1, 5]] ?_
  iterate 3 refine op1 tok ?_
  refine qA ?_
  exact ⟨n + 1, by omega, by omega, qB (by simp), rfl, by simp, by simp⟩
 ·intro h19
  try simp at h19
  have hge : n = zO s k := by
   refine Nat.le_antisymm hn (Nat.not_lt.1 fun h => ?_)
   have := hlt.1 h
   have := h19 (by omega)
   simp_all
  subst hge
  refine AW.exit ?_
  simp
  refine rgn [] [[], [4]] ?_
  iterate 2 refine op1 tok ?_
  refine qA ?_
  exact AW.ret ⟨.inr rfl, _, _, by (conv => lhs; simp), trivial, by simp⟩
def zU (n : Nat) : List UInt8 := List.replicate n 48
theorem qSU (n : Int) (hn : n ≤ 1000000) : AFn Tryz.prog G 73 [.int .i64 n] (.str (zU n.toNat)) := by
 refine AFn.introU tok Tryz.func73 (by kernel_rfl) rfl rfl ?_
 simp only [Tryz.f73, qK, List.map_cons, List.map_nil]
 refine rgn [] [[0]] ?_
 refine op1 tok ?_
 refine qA ?_
 refine rgn [] [[]] ?_
 refine op1 tok ?_
 refine qA ?_
 refine AW.seq ?_
 refine rgn [] [[]] ?_
 refine op1 tok ?_
 refine qA ?_
 refine AW.block ?_
 refine AW.loop (α := Nat) (fun k => k ≤ n.toNat) (fun k => ⟨qW 13 [(0, .p (.int .i64 n)), (3, .p (.str (zU k))), (4, .p (.int .i64 k))], [], [], 0⟩) (fun k => n.toNat - k) (0) (by omega) ⟨qB (by simp [zU]), rfl, by simp, by simp⟩ ?_
 rintro k hk
 refine AW.seq ?_
 refine rgn [] [[], [], [0, 3, 4, 7]] ?_
 iterate 3 refine op1 tok ?_
 refine qA ?_
 refine cnd ?_ ?_
 ·intro h7
  try simp at h7
  refine AW.skip ?_
  refine AW.seq ?_
  refine AW.block ?_
  refine rgz [] [[], [], [0, 3, 4]] ?_
  iterate 3 refine op1 tok ?_ (hv := by first | with_reducible exact True.intro | (simp [zU]; omega; done) | omega | simp | (simp +contextual; omega))
  refine qA ?_
  refine rgz [] [[], [], [0, 3, 4]] ?_
  iterate 3 refine op1 tok ?_
  refine qA ?_
  exact ⟨k + 1, by omega, by omega, qB (by simp [zU, List.replicate_succ']), rfl, by simp [zU, List.replicate_succ'], by simp [zU, List.replicate_succ']⟩
 ·intro h7
  try simp at h7
  have hkn : k = n.toNat := by omega
  subst hkn
  refine AW.exit ?_
  simp
  refine rgn [] [[], [2]] ?_
  iterate 2 refine op1 tok ?_
  refine qA ?_
  exact AW.ret ⟨.inr rfl, _, _, by (conv => lhs; simp), trivial, by simp⟩
def qL (s : List UInt8) : List UInt8 := s.dropWhile (· == 48)
def wB (d : List UInt8) : Nat → List UInt8 × Nat
 | 0 => (d, 0)
 | k + 1 => if d.getLast? = some 48 then wB d.dropLast k else (d, k + 1)
def wD (neg : Bool) (digits : List UInt8) (scale : Nat) : Dc × Int :=
 let x := wB (qL digits) scale
 if x.1 = [] then (⟨false, [48], 0⟩, 0) else if 60 < x.1.length ∨ 60 < x.2 then (⟨false, [], 0⟩, 3) else (⟨neg, x.1, x.2⟩, 0)
theorem qAK {d : List UInt8} (h : 0 < d.length) : qM d (d.length - 1) = 48 ↔ d.getLast? = some 48 := by
 rw [List.getLast?_eq_getElem?, qM, List.getD_eq_getElem?_getD, kT (by omega)]
 simp only [Option.getD_some, Option.some.injEq]
 constructor
 ·intro h2; exact UInt8.toNat_inj.1 (by have : ((d.getD (d.length - 1) 0).toNat : Int) = 48 := h2; show (d.getD (d.length - 1) 0).toNat = 48; omega)
 ·intro h2; rw [h2]; rfl
theorem uA (d : List UInt8) : d.take (d.length - 1) = d.dropLast := (List.dropLast_eq_take).symm
theorem Norm_ev (neg : Bool) (digits : List UInt8) (scale : Nat) (hd : digits.length ≤ 1000000) (hs : scale ≤ 1000000) : AFn Tryz.prog G 74 [.bool neg, .str digits, .int .i64 scale] (.tup [(wD neg digits scale).1.enc, .int .i64 (wD neg digits scale).2]) := by
 refine AFn.introU tok Tryz.func74 (by kernel_rfl) rfl rfl ?_
 simp only [Tryz.f74, qK, List.map_cons, List.map_nil]
 refine rgn [] [[], [0, 1, 2, 6]] ?_
 iterate 2 refine op1 tok ?_
 refine qA ?_
 refine AW.seq ?_
 refine AW.block ?_
 refine AW.loop (α := List UInt8) (fun r => qL r = qL digits ∧ r.length ≤ digits.length) (fun r => ⟨qW 55 [(0, .p (.bool neg)), (1, .p (.str r)), (2, .p (.int .i64 scale)), (6, .ptr 6 0)], [], [(6, .vars 26 [.p (.bool false), .p (.str []), .p (.int .i64 0)])], 0⟩) (fun r => r.length) (digits) ⟨rfl, Nat.le_refl _⟩ ⟨qB (by simp), rfl, by simp, by simp⟩ ?_
 rintro r ⟨hr, hrl⟩
 have hix : 0 < r.length → r[0]? = some (r.getD 0 0) := fun h => kT h
 refine AW.seq ?_
 refine rgn [.int .u8 (qM r 0)] [[], [], [], [], [], [0, 1, 2, 6, 11, 13], [], [0, 1, 2, 6, 15]] ?_
 iterate 4 refine op1 tok ?_ (hv := by first | with_reducible exact True.intro | (first | exact fun h => ⟨h, _, hix (by omega), rfl⟩ | simp; done) | omega | simp | (simp +contextual; omega))
 iterate 3 refine op2 tok ?_ (hv := by first | with_reducible exact True.intro | (first | exact fun h => ⟨h, _, hix (by omega), rfl⟩ | simp; done) | omega | simp | (simp +contextual; omega))
 refine op1 tok ?_ (hv := by first | with_reducible exact True.intro | (first | exact fun h => ⟨h, _, hix (by omega), rfl⟩ | simp; done) | omega | simp | (simp +contextual; omega))
 refine qA ?_
 refine cnd ?_ ?_
 ·intro h15
  try simp at h15
  obtain ⟨b, r, rfl⟩ : ∃ b r', r = b :: r' := by
   cases r with
   | nil => simp at h15
   | cons b r => exact ⟨b, r, rfl⟩
  have hb : b = 48 := UInt8.toNat_inj.1 (by have h9 : (b.toNat : Int) = 48 := h15.2; show b.toNat = 48; omega)
  have hr' : qL r = qL digits := by rw [← hr]; simp [qL, hb]
  simp at hrl
  refine AW.skip ?_
  refine AW.block ?_
  refine rgz [] [[], [], [0, 1, 2, 6]] ?_
  iterate 3 refine op1 tok ?_
  refine qA ?_
  exact ⟨r, ⟨hr', by omega⟩, by simp, qB (by simp), rfl, by simp, by simp⟩
 ·intro h15
  try simp at h15
  have hr' : qL digits = r := by
   rw [← hr]
   cases r with
   | nil => rfl
   | cons b r =>
    have hb : b ≠ 48 := by rintro rfl; simp [qM] at h15
    simp [qL, hb]
  have hN : wD neg digits scale = (if (wB r scale).1 = [] then (⟨false, [48], 0⟩, 0) else if 60 < (wB r scale).1.length ∨ 60 < (wB r scale).2 then (⟨false, [], 0⟩, 3) else (⟨neg, (wB r scale).1, (wB r scale).2⟩, 0)) := by simp only [wD, hr']
  rw [hN]
  clear hN hix h15 hr hr'
  refine AW.exit ?_
  simp
  refine AW.seq ?_
  refine AW.block ?_
  refine AW.loop (α := List UInt8 × Nat) (fun a => wB r scale = wB a.1 a.2 ∧ a.2 ≤ scale ∧ a.1.length ≤ digits.length) (fun a => ⟨qW 55 [(0, .p (.bool neg)), (1, .p (.str a.1)), (2, .p (.int .i64 a.2)), (6, .ptr 6 0)], [], [(6, .vars 26 [.p (.bool false), .p (.str []), .p (.int .i64 0)])], 0⟩) (fun a => a.2) ((r, scale)) ⟨rfl, Nat.le_refl _, hrl⟩ ⟨qB (by simp), rfl, by simp, by simp⟩ ?_
  rintro ⟨d, k⟩ ⟨ht, hk, hdl⟩
  simp only at ht hk hdl
  have hix : 0 < d.length → d[d.length - 1]? = some (d.getD (d.length - 1) 0) := fun h => kT (by omega)
  refine AW.seq ?_
  refine rgn [.int .u8 (qM d (d.length - 1))] [[], [], [], [], [], [0, 1, 2, 6, 20, 23], [], [], [], [], [0, 1, 2, 6, 25, 26, 28], [], [], [0, 1, 2, 6, 25, 31], [0, 1, 2, 6, 32]] ?_
  iterate 15 first | refine op1 tok ?_ (hv := by first | with_reducible exact True.intro | (first | exact fun h1 h2 => ⟨⟨h1, h2⟩, by omega, by omega⟩ | exact fun h1 h2 => ⟨⟨h1, h2⟩, by omega, _, hix h2, rfl⟩ | simp; done) | omega | simp | (simp +contextual; omega)) | refine op2 tok ?_ (hv := by first | with_reducible exact True.intro | (first | exact fun h1 h2 => ⟨⟨h1, h2⟩, by omega, by omega⟩ | exact fun h1 h2 => ⟨⟨h1, h2⟩, by omega, _, hix h2, rfl⟩ | simp; done) | omega | simp | (simp +contextual; omega))
  refine qA ?_
  refine cnd ?_ ?_
  ·intro h32
   try simp at h32
   obtain ⟨k, rfl⟩ : ∃ k', k = k' + 1 := ⟨k - 1, by omega⟩
   have hl := (qAK h32.1.2).1 h32.2
   have ht' : wB r scale = wB d.dropLast k := by rw [ht]; simp only [wB]; rw [if_pos hl]
   refine AW.skip ?_
   refine AW.block ?_
   refine rgn [] [[], [], [], [], [0, 2, 6, 37], [0, 1, 2, 6]] ?_
   iterate 6 refine op1 tok ?_
   refine qA ?_
   refine rgz [] [[], [], [0, 1, 2, 6]] ?_
   iterate 3 refine op1 tok ?_
   refine qA ?_
   exact ⟨(d.dropLast, k), ⟨ht', by simp only []; omega, by simp; omega⟩, by simp, qB (by simp [uA]), rfl, by simp [uA], by simp [uA]⟩
  ·intro h32
   try simp at h32
   have htl : wB d k = (d, k) := by
    cases k with
    | zero => rfl
    | succ k =>
     simp only [wB]
     rw [if_neg]
     intro hl
     have hpos : 0 < d.length := by cases d with
      | nil => simp at hl
      | cons => simp
     have := (qAK hpos).2 hl
     simp [hpos, this] at h32
   rw [ht, htl]
   refine AW.exit ?_
   simp
   refine AW.seq ?_
   refine rgn [] [[], [0, 1, 2, 6, 41]] ?_
   iterate 2 refine op1 tok ?_
   refine qA ?_
   refine cnd ?_ ?_
   ·intro h41
    try simp at h41
    subst h41
    refine rgn [] [[], [], [6, 7]] ?_
    iterate 3 refine op1 tok ?_
    refine qA ?_
    exact AW.ret ⟨.inr rfl, _, _, by (conv => lhs; simp), trivial, by simp⟩
   ·intro h41
    try simp at h41
    refine AW.skip ?_
    refine AW.seq ?_
    refine rgn [] [[], [], [], [], [], [0, 1, 2, 6, 46, 48], [0, 1, 2, 6, 49]] ?_
    iterate 4 refine op1 tok ?_
    iterate 2 refine op2 tok ?_
    refine op1 tok ?_
    refine qA ?_
    refine cnd ?_ ?_
    ·intro h49
     try simp at h49
     have hbig : 60 < d.length ∨ 60 < k := by omega
     refine rgn [] [[], [], [6, 7]] ?_
     iterate 3 refine op1 tok ?_
     refine qA ?_
     exact AW.ret ⟨.inr rfl, _, _, by (conv => lhs; simp), trivial, by simp [h41, hbig]⟩
    ·intro h49
     try simp at h49
     have hbig : ¬ (60 < d.length ∨ 60 < k) := by omega
     refine AW.skip ?_
     refine rgn [] [[], [], [], [6, 54], [], [6, 7]] ?_
     iterate 6 refine op1 tok ?_
     refine qA ?_
     exact AW.ret ⟨.inr rfl, _, _, by (conv => lhs; simp), trivial, by simp [h41, hbig]⟩
def qAP (n : Int) : Bool := decide (n < 48) || decide (57 < n)
theorem other_ev (n : Int) : AFn Tryz.prog G 227 [.int .i32 n] (.bool (qAP n)) := by
 refine AFn.introU tok Tryz.func227 (by kernel_rfl) rfl rfl ?_
 simp only [Tryz.f227, qK, List.map_cons, List.map_nil]
 refine rgn [] [[0]] ?_
 refine op1 tok ?_
 refine qA ?_
 refine rgn [] [[], [], [], [], [5, 7], [], [2]] ?_
 iterate 3 refine op1 tok ?_
 iterate 2 refine op2 tok ?_
 iterate 2 refine op1 tok ?_
 refine qA ?_
 exact AW.ret ⟨.inr rfl, _, _, by (conv => lhs; simp), trivial, by simp [qAP]⟩
theorem other_dig (b : UInt8) : qAP b.toNat = !qG b := by
 rw [Bool.eq_iff_iff]; simp [qAP, qG, kG]
def zC (d : Dc) : Bool := d.digits.all qG && decide (1 ≤ d.digits.length ∧ d.digits.length ≤ 60 ∧ 0 ≤ d.scale ∧ d.scale ≤ 60) &&
 (if d.digits = [48] then decide (d.scale = 0) && !d.neg else decide (qM d.digits 0 ≠ 48) && (decide (d.scale = 0) || decide (qM d.digits (d.digits.length - 1) ≠ 48)))
theorem qVR {d : Dc} (h : d.digits.length = 0 ∨ 60 < d.digits.length ∨ d.scale < 0 ∨ 60 < d.scale ∨ d.digits.all qG = false) : zC d = false := by
 unfold zC
 rcases h with h | h | h | h | h
 ·rw [show decide (1 ≤ d.digits.length ∧ d.digits.length ≤ 60 ∧ 0 ≤ d.scale ∧ d.scale ≤ 60) = false by simp; omega]; simp
 ·rw [show decide (1 ≤ d.digits.length ∧ d.digits.length ≤ 60 ∧ 0 ≤ d.scale ∧ d.scale ≤ 60) = false by simp; omega]; simp
 ·rw [show decide (1 ≤ d.digits.length ∧ d.digits.length ≤ 60 ∧ 0 ≤ d.scale ∧ d.scale ≤ 60) = false by simp; omega]; simp
 ·rw [show decide (1 ≤ d.digits.length ∧ d.digits.length ≤ 60 ∧ 0 ≤ d.scale ∧ d.scale ≤ 60) = false by simp; omega]; simp
 ·simp [h]
theorem qPZ {d : Dc} (h : 1 ≤ d.digits.length ∧ d.digits.length ≤ 60 ∧ 0 ≤ d.scale ∧ d.scale ≤ 60) (ha : d.digits.all qG = true) :
  zC d = (if d.digits = [48] then decide (d.scale = 0) && !d.neg else decide (qM d.digits 0 ≠ 48) && (decide (d.scale = 0) || decide (qM d.digits (d.digits.length - 1) ≠ 48))) := by
 unfold zC; rw [ha, show decide (1 ≤ d.digits.length ∧ d.digits.length ≤ 60 ∧ 0 ≤ d.scale ∧ d.scale ≤ 60) = true by simpa using h]; simp
theorem qIZ (d : Dc) : AFn Tryz.prog G 19 [d.enc] (.bool (zC d)) := by
 refine AFn.introU tok Tryz.func19 (by kernel_rfl) rfl rfl ?_
 simp only [Tryz.f19, qK, List.map_cons, List.map_nil]
 have hdg := fun k => qVL (G := G) (qM d.digits k)
 have hix : ∀ k : Nat, k < d.digits.length → d.digits[k]? = some (d.digits.getD k 0) := fun k h => kT h
 refine rgn [] [[], [1]] ?_
 iterate 2 refine op1 tok ?_
 refine qA ?_
 refine rgn [] [[], [], [], [1, 3]] ?_
 iterate 4 refine op1 tok ?_
 refine qA ?_
 refine AW.seq ?_
 refine rgn [] [[]] ?_
 refine op1 tok ?_
 refine qA ?_
 refine AW.block ?_
 refine AW.intFactU (i := 3) rfl (by decide) ?_; intro hlen; simp at hlen
 refine AW.loop (α := Nat) (fun k => k ≤ d.digits.length ∧ (d.digits.take k).all qG = true) (fun k => ⟨qW 63 [(1, .ptr 1 0), (3, .p (.int .i64 d.digits.length)), (4, .p (.int .i64 k))], [], [(1, .vars 26 [.p (.bool d.neg), .p (.str d.digits), .p (.int .i64 d.scale)])], 0⟩) (fun k => d.digits.length - k) (0) ⟨by omega, rfl⟩ ⟨qB (by simp), rfl, by simp, by simp⟩ ?_
 rintro k ⟨hk, hall⟩
 refine AW.seq ?_
 refine rgn [] [[], [], [1, 3, 4, 10]] ?_
 iterate 3 refine op1 tok ?_
 refine qA ?_
 refine cnd ?_ ?_
 ·intro h10
  try simp at h10
  refine AW.skip ?_
  refine AW.seq ?_
  refine AW.block ?_
  refine rgn [.int .u8 (qM d.digits k), .nilp, .bool (kG (qM d.digits k))] [[], [], [], [], [1, 3, 4, 17], [1, 3, 4, 18]] ?_
  iterate 6 refine op1 tok ?_ (hv := by first | with_reducible exact True.intro | (first | exact hdg k | ((repeat' (first | with_reducible apply And.intro | intro _)) <;> first | omega | assumption | contradiction | exact ⟨_, hix _ (by omega), rfl⟩ | simp_all); done) | omega | simp | (simp +contextual; omega))
  refine qA ?_
  refine cnd ?_ ?_
  ·intro h18
   try simp at h18
   have hno : zC d = false := qVR (.inr (.inr (.inr (.inr (by rw [List.all_eq_false]; exact ⟨_, List.mem_of_getElem? (hix k h10), by simpa [qG, qM] using h18⟩)))))
   refine rgn [] [[]] ?_
   refine op1 tok ?_
   refine qA ?_
   exact AW.ret ⟨.inr rfl, _, _, by (conv => lhs; simp), trivial, by simp [hno]⟩
  ·intro h18
   try simp at h18
   refine AW.skip ?_
   refine rgz [] [[], [], [1, 3, 4]] ?_
   iterate 3 refine op1 tok ?_
   refine qA ?_
   exact ⟨k + 1, ⟨by omega, by rw [List.take_add_one, hix k h10, List.all_append, hall]; simpa [qG, qM] using h18⟩, by omega, qB (by simp), rfl, by simp, by simp⟩
 ·intro h10
  try simp at h10
  rw [List.take_of_length_le (by omega)] at hall
  refine AW.exit ?_
  simp
  refine AW.seq ?_
  refine rgn [] [[], [], [], [], [], [1, 3, 24], [], [], [], [], [1, 3, 29], [], [], [], [], [1, 3, 34]] ?_
  iterate 16 first | refine op1 tok ?_ | refine op2 tok ?_
  refine qA ?_
  refine cnd ?_ ?_
  ·intro h34
   try simp at h34
   have hno : zC d = false := qVR (by omega)
   refine rgn [] [[]] ?_
   refine op1 tok ?_
   refine qA ?_
   exact AW.ret ⟨.inr rfl, _, _, by (conv => lhs; simp), trivial, by simp [hno]⟩
  ·intro h34
   try simp at h34
   rw [qPZ (by omega) hall]
   refine AW.skip ?_
   refine AW.seq ?_
   refine rgn [] [[], [], [1, 3, 37]] ?_
   iterate 3 refine op1 tok ?_
   refine qA ?_
   refine cnd ?_ ?_
   ·intro h37
    try simp at h37
    refine rgn [] [[], [], [], [], [41, 42], [], [], [45], [2]] ?_
    iterate 4 refine op1 tok ?_
    iterate 3 refine op2 tok ?_
    iterate 2 refine op1 tok ?_
    refine qA ?_
    exact AW.ret ⟨.inr rfl, _, _, by (conv => lhs; simp), trivial, by simp [h37]⟩
   ·intro h37
    try simp at h37
    refine AW.skip ?_
    refine rgn [.int .u8 (qM d.digits 0), .int .u8 (qM d.digits (d.digits.length - 1))] [[], [], [], [], [1, 3, 50], [], [], [], [], [3, 50, 54, 55], [], [], [], [50, 54, 59], [], [], [62], [2]] ?_
    iterate 5 refine op1 tok ?_ (hv := by first | with_reducible exact True.intro | (((repeat' (first | with_reducible apply And.intro | intro _)) <;> first | omega | assumption | contradiction | exact ⟨_, hix _ (by omega), rfl⟩ | simp_all); done) | omega | simp | (simp +contextual; omega))
    iterate 11 refine op2 tok ?_ (hv := by first | with_reducible exact True.intro | (((repeat' (first | with_reducible apply And.intro | intro _)) <;> first | omega | assumption | contradiction | exact ⟨_, hix _ (by omega), rfl⟩ | simp_all); done) | omega | simp | (simp +contextual; omega))
    iterate 2 refine op1 tok ?_ (hv := by first | with_reducible exact True.intro | (((repeat' (first | with_reducible apply And.intro | intro _)) <;> first | omega | assumption | contradiction | exact ⟨_, hix _ (by omega), rfl⟩ | simp_all); done) | omega | simp | (simp +contextual; omega))
    refine qA ?_
    exact AW.ret ⟨.inr rfl, _, _, by (conv => lhs; simp), trivial, by simp [h37]⟩
namespace Sy
variable {P : Program} {G : qS}
theorem AFn.of_calls {f : FuncId} {args : List PD} {r : PD} (hc : uW P f) (h : ∀ (M : qY) (w : World) (vs : Array Value), GOK G M w → (∀ b o v, M b o = some v → w.cell? ⟨b, o, none⟩ = some v) → vs.size = args.length →
  (∀ (i : Nat) u d, vs[i]? = some u → args[i]? = some d → Rd M u d) → Calls P f vs w fun e w' => ∃ v, e = .returned v ∧ Rd M v r ∧ RowKit.Below w.heap.size w w') : AFn P G f args r := by
 refine ⟨hc, fun M w vs hg hmem hsz hrd => (h M w vs hg hmem hsz hrd).mono ?_⟩
 rintro e w' ⟨v, rfl, hv, hb⟩
 refine ⟨v, M, rfl, hv, fun b o u hu => ?_, fun _ _ _ h => h, fun _ _ _ => rfl, hb⟩
 have h1 := hmem b o u hu
 exact (World.cell?_of_block (w := w) (hb.block b (kQ h1))).trans h1
theorem vL {f : FuncId} {fn : Func} {c : Code} (hf : P.funcs[f]? = some fn) (hn : (fn.name == "runtime.NumGoroutine") = false) (hb : fn.body = some c) : uW P f := ⟨fn, c, hf, hn, hb⟩
end Sy
@[simp] def Val.cells (v : Val) : List V := [.p (.int .i64 v.kind), .p (.int .u64 v.mask), .p (.bool v.num.neg), .p (.str v.num.digits), .p (.int .i64 v.num.scale), .p (.str v.text), .p (.sl 1 (v.keys.map PD.str)), .p (.sl 9 (v.kids.map Val.enc)), .p (.int .i64 v.code)]
def qCS (s : List UInt8) : Bool := decide ((s.length : Int) ≤ 4096) && Lib.validD s
def qEZ (l : List (List UInt8)) : Bool := l.all qCS && decide l.Nodup
def numT (v : Val) : Bool := if v.kind = 4 then zC v.num else decide (v.num.neg = false ∧ v.num.digits = [] ∧ v.num.scale = 0)
def qTK (v : Val) : Bool := if v.kind = 5 then qCS v.text else decide (v.text = [])
def qIA (v : Val) : Bool := if v.kind = 7 then decide ((v.keys.length : Int) = v.kids.length) && qEZ v.keys else decide (v.keys = [])
def kidsT (v : Val) : Bool := decide (v.kids = []) || decide (v.kind = 6) || decide (v.kind = 7)
def codeT (v : Val) : Bool := decide (decide (v.kind = 8) = !decide (v.code = 0))
def qBX (v : Val) : Bool := codeT v && numT v && qTK v && qIA v && kidsT v
def qCO (v : Val) : Bool := decide (1 ≤ v.kind ∧ v.kind ≤ 8 ∧ v.kids.length ≤ 200)
mutual
def zL : Val → Bool
 | .mk k m n t ks vs c => qCO (.mk k m n t ks vs c) && qBX (.mk k m n t ks vs c) && qUS vs
def qUS : List Val → Bool
 | [] => true
 | v :: vs => zL v && qUS vs
end
theorem qPA : ∀ l, qUS l = l.all zL
 | [] => by simp [qUS]
 | v :: vs => by simp [qUS, qPA vs]
theorem qAI (v : Val) : zL v = (qCO v && qBX v && v.kids.all zL) := by
 cases v; simp only [zL, qPA, Val.kids]
def qPM (v : Val) (s : List UInt8) : Val := v.kids.getD (v.keys.idxOf s) nullV
theorem qPL {v : Val} (hl : v.keys.length ≤ v.kids.length) {s : List UInt8} (h : s ∈ v.keys) : v.kids[v.keys.idxOf s]? = some (qPM v s) := by
 have := List.idxOf_lt_length_of_mem h
 simp [qPM, List.getD_eq_getElem?_getD, show v.keys.idxOf s < v.kids.length by omega]
theorem vA {v k : Val} (h : zL v = true) (hk : k ∈ v.kids) : zL k = true := by
 rw [qAI] at h; simp only [Bool.and_eq_true, List.all_eq_true] at h; exact h.2 k hk
theorem qGV {v : Val} (h : zL v = true) (h7 : v.kind = 7) : v.keys.length = v.kids.length ∧ v.keys.length ≤ 200 ∧ v.keys.Nodup := by
 rw [qAI] at h
 simp only [Bool.and_eq_true, qCO, qBX, qIA, decide_eq_true_eq] at h
 obtain ⟨⟨h1, ⟨⟨_, h2⟩, _⟩⟩, _⟩ := h
 rw [if_pos h7] at h2
 simp [qEZ] at h2
 exact ⟨by omega, by omega, h2.2.2⟩
theorem kY {v : Val} (h : zL v = true) (h4 : v.kind = 4) : zC v.num = true := by
 rw [qAI] at h
 simp only [Bool.and_eq_true, qBX, numT] at h
 obtain ⟨⟨h1, ⟨⟨⟨⟨_, h2⟩, _⟩, _⟩, _⟩⟩, _⟩ := h
 rw [if_pos h4] at h2; exact h2
mutual
def uM (ch : Val → Val) : Val → Val
 | .mk k m n t ks vs c => ch (.mk k m n t ks (qUU ch vs) c)
def qUU (ch : Val → Val) : List Val → List Val
 | [] => []
 | v :: vs => uM ch v :: qUU ch vs
end
theorem qPC (ch : Val → Val) : ∀ l, qUU ch l = l.map (uM ch)
 | [] => by simp [qUU]
 | v :: vs => by simp [qUU, qPC ch vs]
theorem qRP (ch : Val → Val) (v : Val) : uM ch v = ch (.mk v.kind v.mask v.num v.text v.keys (v.kids.map (uM ch)) v.code) := by
 cases v; simp only [uM, qPC, Val.kind_mk, Val.mask_mk, Val.num_mk, Val.text_mk, Val.keys_mk, Val.kids_mk, Val.code_mk]
theorem xY {v : Val} (h : zL v = true) : v.keys.length ≤ 200 ∧ v.kids.length ≤ 200 := by
 by_cases h7 : v.kind = 7
 ·have := qGV h h7; omega
 ·rw [qAI] at h
  simp only [Bool.and_eq_true, qCO, qBX, qIA, decide_eq_true_eq] at h
  obtain ⟨⟨h1, ⟨⟨_, h2⟩, _⟩⟩, _⟩ := h
  rw [if_neg h7] at h2
  simp at h2
  rw [h2]; simp; omega
def qHK (u : Val) : Val := .mk u.kind 0 u.num u.text u.keys u.kids u.code
def qEC (v : Val) : Val := uM qHK v
def InM (a : Int) : Prop := 0 ≤ a ∧ a < 18446744073709551616
def yR (a : Int) : Nat := (a % 18446744073709551616).toNat
theorem qRM (a : Int) : yR a < 2 ^ 64 := by unfold yR; omega
theorem natM_of {a : Int} (h : InM a) : ((yR a : Nat) : Int) = a := by unfold yR; unfold InM at h; omega
theorem natM_cast {n : Nat} (h : n < 2 ^ 64) : yR n = n := by unfold yR; omega
def orM (a b : Int) : Int := ((yR a ||| yR b : Nat) : Int)
def andM (a b : Int) : Int := ((yR a &&& yR b : Nat) : Int)
def subM (a b : Int) : Int := ((yR a &&& (18446744073709551615 - yR b) : Nat) : Int)
theorem or_lt (a b : Int) : yR a ||| yR b < 2 ^ 64 := Nat.or_lt_two_pow (qRM a) (qRM b)
theorem qJU (a b : Int) : yR (orM a b) = yR a ||| yR b := natM_cast (or_lt a b)
theorem wrap_nat {n : Nat} (h : n < 2 ^ 64) : IntKind.u64.wrap (n : Int) = n := by simp [IntKind.wrap, IntKind.bits, IntKind.signed]; omega
theorem wI (a b : Int) : IntKind.u64.wrap (((a % 2 ^ IntKind.u64.bits).toNat ||| (b % 2 ^ IntKind.u64.bits).toNat : Nat) : Int) = orM a b := wrap_nat (or_lt a b)
theorem or_assoc (a b c : Int) : orM (orM a b) c = orM a (orM b c) := by
 show ((yR (orM a b) ||| yR c : Nat) : Int) = ((yR a ||| yR (orM b c) : Nat) : Int)
 rw [qJU, qJU, Nat.or_assoc]
theorem or_self {a : Int} (h : InM a) : orM a a = a := by unfold orM; rw [Nat.or_self, natM_of h]
def LeM (a b : Int) : Prop := orM a b = b
theorem LeM.trans {a b c : Int} (h1 : LeM a b) (h2 : LeM b c) : LeM a c := by
 unfold LeM at *; rw [← h2, ← or_assoc, h1]
theorem LeM.or {a b c : Int} (h1 : LeM a c) (h2 : LeM b c) : LeM (orM a b) c := by
 unfold LeM at *; rw [or_assoc, h2, h1]
theorem LeM.refl {a : Int} (h : InM a) : LeM a a := or_self h
theorem LeM.and {a b : Int} (h : LeM a b) (ha : InM a) : andM b a = a := by
 unfold LeM at h
 have h1 : yR a ||| yR b = yR b := by rw [← qJU, h]
 unfold andM
 have : yR b &&& yR a = yR a := by
  rw [← h1]
  apply Nat.eq_of_testBit_eq; intro i
  simp only [Nat.testBit_and, Nat.testBit_or]
  cases (yR a).testBit i <;> cases (yR b).testBit i <;> rfl
 rw [this, natM_of ha]
theorem LeM.sub {a b : Int} (h : LeM a b) : subM a b = 0 := by
 unfold LeM at h
 have h1 : yR a ||| yR b = yR b := by rw [← qJU, h]
 have hb := qRM b
 unfold subM
 have : yR a &&& (18446744073709551615 - yR b) = 0 := by
  apply Nat.eq_of_testBit_eq; intro i
  rw [show 18446744073709551615 - yR b = 2 ^ 64 - (yR b + 1) by omega]
  simp only [Nat.testBit_and, Nat.testBit_two_pow_sub_succ hb, Nat.zero_testBit]
  have h3 : (yR a ||| yR b).testBit i = (yR b).testBit i := by rw [h1]
  rw [Nat.testBit_or] at h3
  revert h3
  cases (yR a).testBit i <;> cases (yR b).testBit i <;> simp
 rw [this]; rfl
def yJ : Val := .mk 0 0 dc0 [] [] [] 0
@[simp] theorem zeroV_kind : yJ.kind = 0 := rfl
@[simp] theorem zeroV_mask : yJ.mask = 0 := rfl
@[simp] theorem zeroV_neg : yJ.num.neg = false := rfl
@[simp] theorem zeroV_digits : yJ.num.digits = [] := rfl
@[simp] theorem zeroV_scale : yJ.num.scale = 0 := rfl
@[simp] theorem zeroV_text : yJ.text = [] := rfl
@[simp] theorem zeroV_keys : yJ.keys = [] := rfl
@[simp] theorem zeroV_kids : yJ.kids = [] := rfl
@[simp] theorem zeroV_code : yJ.code = 0 := rfl
@[simp] def zeroN : List V := [.p (.int .i64 0), .p (.int .u64 0), .p (.bool false), .p (.str []), .p (.int .i64 0), .p (.str []), .nilsl, .nilsl, .p (.int .i64 0)]
def qQZ (v : Val) (m : Int) : Val := .mk v.kind m v.num v.text v.keys v.kids v.code
@[simp] theorem setM_kind (u : Val) (m : Int) : (qQZ u m).kind = u.kind := rfl
@[simp] theorem setM_mask (u : Val) (m : Int) : (qQZ u m).mask = m := rfl
@[simp] theorem setM_num (u : Val) (m : Int) : (qQZ u m).num = u.num := rfl
@[simp] theorem setM_text (u : Val) (m : Int) : (qQZ u m).text = u.text := rfl
@[simp] theorem setM_keys (u : Val) (m : Int) : (qQZ u m).keys = u.keys := rfl
@[simp] theorem setM_kids (u : Val) (m : Int) : (qQZ u m).kids = u.kids := rfl
@[simp] theorem setM_code (u : Val) (m : Int) : (qQZ u m).code = u.code := rfl
def qTV (v : Val) (l : List Val) : Val := .mk v.kind v.mask v.num v.text v.keys l v.code
@[simp] theorem setK_kind (u : Val) (m : List Val) : (qTV u m).kind = u.kind := rfl
@[simp] theorem setK_mask (u : Val) (m : List Val) : (qTV u m).mask = u.mask := rfl
@[simp] theorem setK_num (u : Val) (m : List Val) : (qTV u m).num = u.num := rfl
@[simp] theorem setK_text (u : Val) (m : List Val) : (qTV u m).text = u.text := rfl
@[simp] theorem setK_keys (u : Val) (m : List Val) : (qTV u m).keys = u.keys := rfl
@[simp] theorem setK_kids (u : Val) (m : List Val) : (qTV u m).kids = m := rfl
@[simp] theorem setK_code (u : Val) (m : List Val) : (qTV u m).code = u.code := rfl
def qAC (v : Val) (m : Int) : Val := qQZ v (orM v.mask m)
@[simp] theorem withV_kind (u : Val) (m : Int) : (qAC u m).kind = u.kind := rfl
@[simp] theorem withV_mask (u : Val) (m : Int) : (qAC u m).mask = orM u.mask m := rfl
@[simp] theorem withV_num (u : Val) (m : Int) : (qAC u m).num = u.num := rfl
@[simp] theorem withV_text (u : Val) (m : Int) : (qAC u m).text = u.text := rfl
@[simp] theorem withV_keys (u : Val) (m : Int) : (qAC u m).keys = u.keys := rfl
@[simp] theorem withV_kids (u : Val) (m : Int) : (qAC u m).kids = u.kids := rfl
@[simp] theorem withV_code (u : Val) (m : Int) : (qAC u m).code = u.code := rfl
theorem jV (v : Val) : qEC v = qTV (qQZ v 0) (v.kids.map qEC) := by
 show uM qHK v = _
 rw [qRP]; rfl
@[simp] theorem bareV_kind (u : Val) : (qEC u).kind = u.kind := by rw [jV]; rfl
@[simp] theorem bareV_mask (u : Val) : (qEC u).mask = 0 := by rw [jV]; rfl
@[simp] theorem bareV_num (u : Val) : (qEC u).num = u.num := by rw [jV]; rfl
@[simp] theorem bareV_text (u : Val) : (qEC u).text = u.text := by rw [jV]; rfl
@[simp] theorem bareV_keys (u : Val) : (qEC u).keys = u.keys := by rw [jV]; rfl
@[simp] theorem bareV_kids (u : Val) : (qEC u).kids = u.kids.map qEC := by rw [jV]; rfl
@[simp] theorem bareV_code (u : Val) : (qEC u).code = u.code := by rw [jV]; rfl
theorem qRO (v : Val) : uM id v = v := by
 induction v using Val.induct with
 | h v ih =>
  rw [qRP]
  have : v.kids.map (uM id) = v.kids := by
   conv => rhs; rw [← List.map_id v.kids]
   exact List.map_congr_left fun k hk => ih k hk
  rw [this]; cases v; rfl
mutual
def zD : Val → Int
 | .mk _ m _ _ _ vs _ => qCY m vs
def qCY (m : Int) : List Val → Int
 | [] => m
 | v :: vs => qCY (orM m (zD v)) vs
end
theorem qVO (v : Val) : zD v = qCY v.mask v.kids := by cases v; simp only [zD, Val.mask_mk, Val.kids_mk]
theorem qSF (l : List Val) (x : Val) : ∀ m, qCY m (l ++ [x]) = orM (qCY m l) (zD x) := by
 induction l with
 | nil => intro m; simp only [List.nil_append, qCY]
 | cons y l ih => intro m; simp only [List.cons_append, qCY, ih]
theorem qFY {m : Int} {l : List Val} {k : Nat} {x : Val} (h : l[k]? = some x) : qCY m (l.take (k + 1)) = orM (qCY m (l.take k)) (zD x) := by
 rw [List.take_add_one, h]; exact qSF _ _ _
@[simp] theorem deepL_nil (m : Int) : qCY m [] = m := by simp only [qCY]
mutual
def InV : Val → Prop
 | .mk _ m _ _ _ vs _ => InM m ∧ InVL vs
def InVL : List Val → Prop
 | [] => True
 | v :: vs => InV v ∧ InVL vs
end
theorem InVL_all : ∀ l, InVL l ↔ ∀ v ∈ l, InV v
 | [] => by simp [InVL]
 | v :: vs => by simp [InVL, InVL_all vs]
mutual
def depV : Val → Nat
 | .mk _ _ _ _ _ vs _ => depL 0 vs + 1
def depL (d : Nat) : List Val → Nat
 | [] => d
 | v :: vs => depL (max d (depV v)) vs
end
@[simp] theorem depL_nil (m : Nat) : depL m [] = m := by simp only [depL]
theorem sz_eq (v : Val) : Val.sz v = 1 + Val.szL v.kids := by cases v; simp only [Val.sz, Val.kids_mk]
@[simp] theorem szL_nil : Val.szL [] = 0 := by simp only [Val.szL]
@[simp] theorem szL_one (x : Val) : Val.szL [x] = Val.sz x := by simp only [Val.szL, Nat.add_zero]
theorem sz_pos (v : Val) : 1 ≤ Val.sz v := by rw [sz_eq]; omega
theorem qZF : ∀ l : List Val, l.length ≤ Val.szL l
 | [] => by simp
 | v :: l => by simp only [Val.szL, List.length_cons]; have := qZF l; have := sz_pos v; omega
theorem qXV {v : Val} {n : Nat} (h : Val.sz v ≤ n) : v.kids.length ≤ n := by rw [sz_eq] at h; have := qZF v.kids; omega
@[simp] theorem bare1_kind (u : Val) : (qHK u).kind = u.kind := rfl
@[simp] theorem bare1_mask (u : Val) : (qHK u).mask = 0 := rfl
@[simp] theorem bare1_num (u : Val) : (qHK u).num = u.num := rfl
@[simp] theorem bare1_text (u : Val) : (qHK u).text = u.text := rfl
@[simp] theorem bare1_keys (u : Val) : (qHK u).keys = u.keys := rfl
@[simp] theorem bare1_kids (u : Val) : (qHK u).kids = u.kids := rfl
@[simp] theorem bare1_code (u : Val) : (qHK u).code = u.code := rfl
def jC (ch : Val → Val) (v : Val) (k : Nat) : List PD := (v.kids.take k).map (fun u => (uM ch u).enc) ++ (v.kids.drop k).map Val.enc
theorem qLZ (ch : Val → Val) (v : Val) (k : Nat) : (jC ch v k).length = v.kids.length := by
 simp only [jC, List.length_append, List.length_map, List.length_take, List.length_drop]; omega
@[simp] theorem kidsAt_zero (ch : Val → Val) (v : Val) : jC ch v 0 = v.kids.map Val.enc := by simp only [jC, List.take_zero, List.map_nil, List.nil_append, List.drop_zero]
theorem qMA {ch : Val → Val} {v x : Val} {k : Nat} (hx : v.kids[k]? = some x) : (jC ch v k)[k]? = some x.enc := by
 have hk := (List.getElem?_eq_some_iff.1 hx).1
 have h0 : ((v.kids.take k).map (fun u => (uM ch u).enc)).length = k := by simp only [List.length_map, List.length_take]; omega
 rw [jC, List.getElem?_append_right (by omega), h0, Nat.sub_self, List.getElem?_map, List.getElem?_drop, Nat.add_zero, hx]; rfl
theorem qLY {ch : Val → Val} {v x : Val} {k : Nat} (hx : v.kids[k]? = some x) : (jC ch v k).set k (uM ch x).enc = jC ch v (k + 1) := by
 have hk := (List.getElem?_eq_some_iff.1 hx).1
 have hxk := (List.getElem?_eq_some_iff.1 hx).2
 have h0 : ((v.kids.take k).map (fun u => (uM ch u).enc)).length = k := by simp only [List.length_map, List.length_take]; omega
 rw [jC, List.set_append_right _ _ (by omega), h0, Nat.sub_self, List.drop_eq_getElem_cons hk, jC, List.take_succ_eq_append_getElem hk, hxk]
 simp only [List.map_cons, List.set_cons_zero, List.map_append, List.map_nil, List.append_assoc, List.cons_append, List.nil_append]
theorem qUT (g : FuncId) (ch : Val → Val) (v : Val) (hg : ∀ u : Val, AX Tryz.prog G g [.ptr 2 0] [(2, .vars 31 u.cells)] (.tuple []) [2] [(2, .vars 31 (ch u).cells)]) (hsm : v.keys.length ≤ 1000000 ∧ v.kids.length ≤ 1000000) (ih : ∀ k ∈ v.kids, AFn Tryz.prog G 134 [k.enc, .fn g] (uM ch k).enc) : AFn Tryz.prog G 134 [v.enc, .fn g] ((uM ch v).enc) := by
 refine AFn.introU tok Tryz.func134 (by kernel_rfl) rfl rfl ?_
 simp only [Tryz.f134, qK, List.map_cons, List.map_nil]
 have hck := qQF (G := G) v.keys (by omega)
 have hcv := qQD (G := G) v.kids (by omega)
 refine rgn [] [[], [1, 2, 4]] ?_
 iterate 2 refine op1 tok ?_
 refine qA ?_
 refine AW.seqRunDrawK tok mixed [1, 2, 4] 8 [[2], [7], [8], [2], [10], [11], [2], [13, 9]] [.nilf, .sl 1 (v.keys.map PD.str), .clo 9 [], .nilf, .sl 9 (v.kids.map Val.enc), .clo 31 []] [] (by kernel_rfl) (by intro C; conv => lhs; simp) (by first | exact hck | exact hcv | ((repeat' (first | with_reducible apply And.intro | intro _)) <;> first | exact (hck) | exact (hcv) | assumption | omega | contradiction | simp_all)) (by simp [Sm.sum, Sm.foot, Sm.tch, Sm.refs]; kernel_rfl) (by intro C; conv => lhs; simp) (by first | with_reducible exact True.intro | omega | simp | (simp +contextual; omega)) ?_
 refine AW.seq ?_
 refine rgn [] [[], [], [], [1, 2, 4, 16, 17, 18]] ?_
 iterate 4 refine op1 tok ?_
 refine qA ?_
 refine AW.block ?_
 refine AW.loop (α := Nat) (fun k => k ≤ v.kids.length) (fun k => ⟨qW 34 [(1, .p (.fn g)), (2, .ptr 2 0), (4, .ptr 4 0), (16, .ms 12), (17, .p (.int .i64 v.kids.length)), (18, .p (.int .i64 k))], [], [(2, .vars 31 [.p (.int .i64 v.kind), .p (.int .u64 v.mask), .p (.bool v.num.neg), .p (.str v.num.digits), .p (.int .i64 v.num.scale), .p (.str v.text), .ms 9, .ms 12, .p (.int .i64 v.code)]), (4, .vars 31 [.p (.int .i64 0), .p (.int .u64 0), .p (.bool false), .p (.str []), .p (.int .i64 0), .p (.str []), .nilsl, .nilsl, .p (.int .i64 0)]), (9, .row 9 1 (v.keys.map PD.str)), (12, .row 31 9 (jC ch v k))], 0⟩) (fun k => v.kids.length - k) (0) (by simp) ⟨qB (by simp), rfl, by simp, by simp⟩ ?_
 rintro k hk
 refine rgn [] [[]] ?_
 refine op1 tok ?_
 refine qA ?_
 refine AW.seq ?_
 refine cnd ?_ ?_
 ·intro h19
  try simp at h19
  obtain ⟨x, hx⟩ : ∃ x, v.kids[k]? = some x := ⟨v.kids[k], by simp [h19]⟩
  have hx' := qMA (ch := ch) hx
  have hkl := qLZ ch v k
  have hix := ih x (List.mem_of_getElem? hx)
  have hset := qLY (ch := ch) hx
  simp only [Val.enc_def] at hx' hix hset
  refine AW.skip ?_
  refine AW.seq ?_
  refine AW.block ?_
  refine rgn [x.enc] [[], [], [], [], [], [1, 2, 4, 5, 6, 16, 17, 18]] ?_
  iterate 6 refine op1 tok ?_ (hv := by first | with_reducible exact True.intro | (simpa using hx'; done) | omega | simp | (simp +contextual; omega))
  refine qA ?_
  refine AW.runDrawK tok mixed [1, 2, 4, 16, 17, 18] 6 [[2], [23], [5], [6], [1], [26, 27]] [.nilp, (uM ch x).enc] [x.enc, (uM ch x).enc] (by kernel_rfl) (by intro C; conv => lhs; simp) (by first | exact hix | ((repeat' (first | with_reducible apply And.intro | intro _)) <;> first | exact (hix) | exact (hx') | assumption | omega | contradiction | simp_all)) (by simp [Sm.sum, Sm.foot, Sm.tch, Sm.refs]; kernel_rfl) (by intro C; conv => lhs; simp) (by exact ⟨by omega, hx'⟩) ?_
  refine rgz [] [[], [1, 2, 4, 16, 17, 18]] ?_
  iterate 2 refine op1 tok ?_
  refine qA ?_
  exact ⟨k + 1, (by omega), (by omega), qB (by simp [hset]), rfl, by simp [hset], by simp [hset]⟩
 ·intro h19
  try simp at h19
  obtain rfl : k = v.kids.length := by omega
  have hfull : jC ch v v.kids.length = (v.kids.map (uM ch)).map Val.enc := by simp only [jC, List.take_length, List.drop_length, List.map_nil, List.append_nil, List.map_map]; rfl
  rw [hfull]
  refine AW.exit ?_
  simp
  refine rgn [] [[]] ?_
  refine op1 tok ?_
  refine qV ?_
  refine qE.freeze 9 (by conv => lhs; simp) ?_
  refine qE.freeze 12 (by conv => lhs; simp) ?_
  refine qE.stepK [2, 4] (wY rfl (hg (.mk v.kind v.mask v.num v.text v.keys (v.kids.map (uM ch)) v.code)) (by simp)) (by conv => lhs; simp) rfl ?_
  refine qE.nil ?_
  refine rgn [] [[], [4]] ?_
  iterate 2 refine op1 tok ?_
  refine qA ?_
  exact AW.ret ⟨.inr rfl, _, _, by (conv => lhs; simp), trivial, by simp [qRP ch v]⟩
inductive Few : Val → Prop
 | mk {v : Val} (h1 : v.keys.length ≤ 1000000) (h2 : v.kids.length ≤ 1000000) (h3 : ∀ k ∈ v.kids, Few k) : Few v
theorem qJX (v : Val) (h : zL v = true) : Few v :=
 Val.induct (p := fun v => zL v = true → Few v) (fun v ih hv => by
  have hsm := xY hv
  exact .mk (by omega) (by omega) fun k hk => ih k hk (vA hv hk)) v h
theorem qLT (g : FuncId) (ch : Val → Val) (hg : ∀ u : Val, AX Tryz.prog G g [.ptr 2 0] [(2, .vars 31 u.cells)] (.tuple []) [2] [(2, .vars 31 (ch u).cells)]) (v : Val) (hv : Few v) : AFn Tryz.prog G 134 [v.enc, .fn g] (uM ch v).enc := by
 induction hv with
 | mk h1 h2 h3 ih => exact qUT g ch _ hg ⟨h1, h2⟩ ih
theorem mapped_ev (g : FuncId) (ch : Val → Val) (hg : ∀ u : Val, AX Tryz.prog G g [.ptr 2 0] [(2, .vars 31 u.cells)] (.tuple []) [2] [(2, .vars 31 (ch u).cells)]) (v : Val) (hv : zL v = true) : AFn Tryz.prog G 134 [v.enc, .fn g] (uM ch v).enc :=
 qLT g ch hg v (qJX v hv)
theorem qQH (u : Val) : AX Tryz.prog G 135 [.ptr 2 0] [(2, .vars 31 u.cells)] (.tuple []) [2] [(2, .vars 31 (id u).cells)] := by
 refine AX.introU tok 900 Tryz.func135 (by kernel_rfl) rfl rfl ?_
 simp only [Tryz.f135, qK, List.map_cons, List.map_nil]
 refine AW.skip ?_
 exact ⟨.inl rfl, _, _, by (conv => lhs; simp), trivial, by simp, by simp, by simp, by simp⟩
theorem qQG (v : Val) (hv : Few v) : AFn Tryz.prog G 78 [v.enc] (v.enc) := by
 refine AFn.introU tok Tryz.func78 (by kernel_rfl) rfl rfl ?_
 simp only [Tryz.f78, qK, List.map_cons, List.map_nil]
 have hm := qLT (G := G) 135 id qQH v hv
 rw [qRO] at hm
 simp only [Val.enc_def] at hm
 refine rgn [] [[], [1, 2]] ?_
 iterate 2 refine op1 tok ?_
 refine qA ?_
 refine rgn [.nilp, v.enc] [[], [], [2]] ?_
 iterate 3 refine op1 tok ?_ (hv := by first | with_reducible exact True.intro | (exact hm; done) | omega | simp | (simp +contextual; omega))
 refine qA ?_
 exact AW.ret ⟨.inr rfl, _, _, by (conv => lhs; simp), trivial, by simp⟩
theorem qVZ (v : Val) (hv : zL v = true) : AFn Tryz.prog G 78 [v.enc] v.enc := qQG v (qJX v hv)
theorem deep_step (v : Val) (ih : ∀ k ∈ v.kids, AFn Tryz.prog G 31 [k.enc] (.int .u64 (zD k))) : AFn Tryz.prog G 31 [v.enc] (.int .u64 (zD v)) := by
 refine AFn.introU tok Tryz.func31 (by kernel_rfl) rfl rfl ?_
 simp only [Tryz.f31, qK, List.map_cons, List.map_nil]
 refine rgn [] [[], [1]] ?_
 iterate 2 refine op1 tok ?_
 refine qA ?_
 refine rgn [] [[], [], [1, 3]] ?_
 iterate 3 refine op1 tok ?_
 refine qA ?_
 refine AW.seq ?_
 refine rgn [] [[], [], [], [3, 9, 10, 11]] ?_
 iterate 4 refine op1 tok ?_
 refine qA ?_
 refine AW.block ?_
 refine AW.intFactU (i := 10) rfl (by decide) ?_; intro hlen; simp at hlen
 refine AW.loop (α := Nat) (fun k => k ≤ v.kids.length) (fun k => ⟨qW 21 [(3, .p (.int .u64 (qCY v.mask (v.kids.take k)))), (9, .p (.sl 9 (v.kids.map Val.enc))), (10, .p (.int .i64 v.kids.length)), (11, .p (.int .i64 k))], [], [], 0⟩) (fun k => v.kids.length - k) (0) (by omega) ⟨qB (by simp), rfl, by simp, by simp⟩ ?_
 rintro k hk
 refine rgn [] [[]] ?_
 refine op1 tok ?_
 refine qA ?_
 refine AW.seq ?_
 refine cnd ?_ ?_
 ·intro h12
  try simp at h12
  obtain ⟨x, hx⟩ : ∃ x, v.kids[k]? = some x := ⟨v.kids[k], by simp [h12]⟩
  have hix := ih x (List.mem_of_getElem? hx)
  simp only [Val.enc_def] at hix
  refine AW.skip ?_
  refine AW.seq ?_
  refine AW.block ?_
  refine rgn [x.enc] [[], [], [], [3, 5, 9, 10, 11]] ?_
  iterate 4 refine op1 tok ?_ (hv := by first | with_reducible exact True.intro | (simp [hx]; done) | omega | simp | (simp +contextual; omega))
  refine qA ?_
  refine rgz [.nilp, .int .u64 (zD x)] [[], [], [], [9, 10, 11, 18], [3, 9, 10, 11]] ?_
  iterate 5 refine op1 tok ?_ (h := by intro C; conv => lhs; simp [wI]) (hv := by first | with_reducible exact True.intro | (exact hix; done) | omega | simp | (simp +contextual; omega))
  refine qA ?_
  refine rgz [] [[], [3, 9, 10, 11]] ?_
  iterate 2 refine op1 tok ?_
  refine qA ?_
  exact ⟨k + 1, by omega, by omega, qB (by simp [qFY hx]), rfl, by simp [qFY hx], by simp [qFY hx]⟩
 ·intro h12
  try simp at h12
  rw [List.take_of_length_le h12]
  refine AW.exit ?_
  simp
  refine rgn [] [[], [2]] ?_
  iterate 2 refine op1 tok ?_
  refine qA ?_
  exact AW.ret ⟨.inr rfl, _, _, by (conv => lhs; simp), trivial, by simp [qVO v]⟩
theorem wU (v : Val) : AFn Tryz.prog G 31 [v.enc] (.int .u64 (zD v)) := Val.induct (fun v ih => deep_step v ih) v
theorem qZA (v : Val) (m : Int) (hv : zL v = true) : AFn Tryz.prog G 76 [v.enc, .int .u64 m] ((qAC v m).enc) := by
 refine AFn.introU tok Tryz.func76 (by kernel_rfl) rfl rfl ?_
 simp only [Tryz.f76, qK, List.map_cons, List.map_nil]
 have hm := qVZ (G := G) v hv
 simp only [Val.enc_def] at hm
 refine rgn [] [[], [1, 2, 4]] ?_
 iterate 2 refine op1 tok ?_
 refine qA ?_
 refine rgn [.nilp, v.enc] [[], [], [1, 2, 4]] ?_
 iterate 3 refine op1 tok ?_ (hv := by first | with_reducible exact True.intro | (exact hm; done) | omega | simp | (simp +contextual; omega))
 refine qA ?_
 refine rgn [] [[], [], [], [2, 4, 10], [], [2, 4]] ?_
 iterate 6 refine op1 tok ?_ (h := by intro C; conv => lhs; simp [wI])
 refine qA ?_
 refine rgn [] [[], [4]] ?_
 iterate 2 refine op1 tok ?_
 refine qA ?_
 exact AW.ret ⟨.inr rfl, _, _, by (conv => lhs; simp), trivial, by simp⟩
open Go
open Go.Lib
def qNJ (n : Nat) : UInt8 := if n < 10 then UInt8.ofNat (48 + n) else UInt8.ofNat (87 + n)
def qb (b : UInt8) : List UInt8 :=
 if b = 34 ∨ b = 92 then [92, b] else if b = 10 then [92, 110] else if b = 13 then [92, 114] else if b = 9 then [92, 116]
 else if b < 32 ∨ b = 127 then [92, 117, 48, 48, qNJ (b.toNat / 16), qNJ (b.toNat % 16)] else [b]
def vF (s : List UInt8) : List UInt8 := s.flatMap qb
def kA (s : List UInt8) : List UInt8 := 34 :: (vF s ++ [34])
def qMF (c : UInt8) : Option Nat := if 48 ≤ c ∧ c ≤ 57 then some (c.toNat - 48) else if 97 ≤ c ∧ c ≤ 102 then some (c.toNat - 87) else if 65 ≤ c ∧ c ≤ 70 then some (c.toNat - 55) else none
def qMG : List UInt8 → Nat → Option Nat
 | [], x => some x
 | c :: l, x => match qMF c with
  | none => none
  | some k => qMG l (16 * x + k)
def jE (s : List UInt8) : Option Nat := if s.length < 6 ∨ s.take 2 ≠ [92, 117] then none else qMG ((s.drop 2).take 4) 0
def uR (c : UInt8) : Option Nat := if c = 34 then some 34 else if c = 92 then some 92 else if c = 47 then some 47 else if c = 98 then some 8 else if c = 102 then some 12 else if c = 110 then some 10 else if c = 114 then some 13 else if c = 116 then some 9 else none
def qNM (u w : Option Nat) : Nat × Nat × Bool :=
 if u.isSome = false ∨ u.getD 0 / 1024 ≠ 54 then (u.getD 0, 6, u.isSome && decide (u.getD 0 / 1024 ≠ 55)) else (65536 + u.getD 0 % 1024 * 1024 + w.getD 0 % 1024, 12, w.isSome && decide (w.getD 0 / 1024 = 55))
def xS (s : List UInt8) : Nat × Nat × Bool := match s with
 | _ :: c :: _ => match uR c with
  | some v => (v, 2, true)
  | none => qNM (jE s) (jE (s.drop 6))
 | _ => (0, 0, false)
def escL (s : List UInt8) : Option (Nat × Nat) := if (xS s).2.2 = true then some ((xS s).1, (xS s).2.1) else none
def xQ : Nat → List UInt8 → Nat → List UInt8 → List UInt8 × Nat × Int
 | 0, _, _, _ => ([], 0, 6)
 | f + 1, s, at', out => if s = [] then ([], 0, 6)
  else if (decodeL s).1 = 34 then (if 4096 < out.length then ([], 0, 3) else (out, at' + 1, 0))
  else if (decodeL s).1 < 32 ∨ ((decodeL s).1 = 65533 ∧ (decodeL s).2 = 1) then ([], 0, 6)
  else if (decodeL s).1 = 92 then (match escL s with
   | none => ([], 0, 6)
   | some (c, n) => xQ f (s.drop n) (at' + n) (out ++ encodeRune c))
  else xQ f (s.drop (decodeL s).2) (at' + (decodeL s).2) (out ++ encodeRune (decodeL s).1)
def zK (s : List UInt8) : List UInt8 × Nat × Int := if s.head? = some 34 then xQ s.length (s.drop 1) 1 [] else ([], 0, 6)
theorem qFZ {b : UInt8} {t : List UInt8} (h : b.toNat < 128) : decodeL (b :: t) = (b.toNat, 1) := by
 unfold decodeL
 rw [decode_at]
 have e : (⟨(b :: t).toArray⟩ : ByteArray).get! 0 = b := rfl
 rw [e]
 unfold decodeN
 rw [if_pos h]
theorem ofNat_lt {b : UInt8} (h : b.toNat < 128) : encodeRune (b.toNat : Int) = [b] := by
 simp only [encodeRune, encodeRuneZ_one (r := (b.toNat : Int)) (by omega) (by omega), List.map_cons, List.map_nil]
 congr 1
 simp
theorem qVQ (l : List UInt8) : decodeL l = decodeN l.length (l.getD 0 0).toNat (l.getD 1 0).toNat (l.getD 2 0).toNat (l.getD 3 0).toNat := by
 unfold decodeL
 rw [decode_at]
 have e : ∀ k, (⟨l.toArray⟩ : ByteArray).get! k = l.getD k 0 := by
  intro k
  show l.toArray[k]! = _
  simp [List.getD_eq_getElem?_getD]
  rfl
 simp only [e]
 rfl
theorem big_bytes (l : List UInt8) (hne : l ≠ []) (hv : ¬ ((decodeL l).1 = 65533 ∧ (decodeL l).2 = 1)) (hb : 128 ≤ (l.getD 0 0).toNat) : (∀ b ∈ l.take (decodeL l).2, 128 ≤ b.toNat) ∧ 128 ≤ (decodeL l).1 := by
 have hr := qVQ l
 have hle := decodeL_le l hne
 have hlen : 0 < l.length := by cases l with
  | nil => exact absurd rfl hne
  | cons a l => simp
 unfold decodeN at hr
 rw [if_neg (by omega)] at hr
 split at hr
 ·rename_i c
  split at hr
  ·rw [hr] at hv hle ⊢
   simp only at hle ⊢
   rw [takeB l (by omega)]
   refine ⟨fun b hb' => ?_, by omega⟩
   simp at hb'
   rcases hb' with h | h <;> (subst h; simp at hb c; omega)
  ·rw [hr] at hv; exact absurd ⟨rfl, rfl⟩ hv
 ·split at hr
  ·rename_i c
   split at hr
   ·rw [hr] at hv hle ⊢
    simp only at hle ⊢
    rw [takeC l (by omega)]
    refine ⟨fun b hb' => ?_, by omega⟩
    simp at hb'
    rcases hb' with h | h | h <;> (subst h; simp at hb c; omega)
   ·rw [hr] at hv; exact absurd ⟨rfl, rfl⟩ hv
  ·split at hr
   ·rename_i c
    split at hr
    ·rw [hr] at hv hle ⊢
     simp only at hle ⊢
     rw [takeD l (by omega)]
     refine ⟨fun b hb' => ?_, by omega⟩
     simp at hb'
     rcases hb' with h | h | h | h <;> (subst h; simp at hb c; omega)
    ·rw [hr] at hv; exact absurd ⟨rfl, rfl⟩ hv
   ·rw [hr] at hv; exact absurd ⟨rfl, rfl⟩ hv
theorem qRG (a b : List UInt8) : vF (a ++ b) = vF a ++ vF b := by simp [vF]
def jK (s : List UInt8) : Bool := decide (0 < s.length) && decide (qM s 0 = 45)
def qDM (s : List UInt8) (k : Nat) (digits : List UInt8) : Option (Nat × List UInt8 × Nat) :=
 if k < s.length ∧ qM s k = 46 then (if zO s (k + 1) = 0 then none else some (k + 1 + zO s (k + 1), digits ++ (s.take (k + 1 + zO s (k + 1))).drop (k + 1), zO s (k + 1))) else some (k, digits, 0)
def upM (s : List UInt8) (k : Nat) : Nat → Int
 | 0 => 0
 | i + 1 => 10 * upM s k i + (qM s (k + i) - 48)
def wS (s : List UInt8) (k : Nat) : Nat := if k < s.length ∧ (qM s k = 45 ∨ qM s k = 43) then k + 1 else k
def qDL (s : List UInt8) (k : Nat) : Option (Nat × Int) :=
 if k < s.length ∧ (qM s k = 101 ∨ qM s k = 69) then
  (if zO s (wS s (k + 1)) < 1 ∨ 2 < zO s (wS s (k + 1)) then none
   else some (wS s (k + 1) + zO s (wS s (k + 1)), if k + 1 < s.length ∧ qM s (k + 1) = 45 then - upM s (wS s (k + 1)) (zO s (wS s (k + 1))) else upM s (wS s (k + 1)) (zO s (wS s (k + 1)))))
 else some (k, 0)
def jZ : Dc × Int := (⟨false, [], 0⟩, 4)
def xT (neg : Bool) (digits : List UInt8) (sc : Int) : Dc × Int := if sc < 0 then wD neg (digits ++ zU (-sc).toNat) 0 else wD neg digits sc.toNat
def qCV (s : List UInt8) (neg : Bool) (digits : List UInt8) (scale : Nat) : Option (Nat × Int) → Dc × Int
 | none => jZ
 | some (k, up) => if k = s.length then xT neg digits (scale - up) else jZ
def qIX (s : List UInt8) (neg : Bool) : Option (Nat × List UInt8 × Nat) → Dc × Int
 | none => jZ
 | some (k, digits, scale) => qCV s neg digits scale (qDL s k)
def a0M (s : List UInt8) : Nat := if jK s = true then 1 else 0
def qEI (s : List UInt8) : Dc × Int :=
 if zO s (a0M s) = 0 ∨ (1 < zO s (a0M s) ∧ qM s (a0M s) = 48) then jZ
 else qIX s (jK s) (qDM s (a0M s + zO s (a0M s)) ((s.take (a0M s + zO s (a0M s))).drop (a0M s)))
theorem qGI (s : List UInt8) (k : Nat) (h : k ≤ s.length) : k + zO s k ≤ s.length := by
 unfold zO
 have := (List.takeWhile_sublist (l := s.drop k) fun b : UInt8 => kG b.toNat).length_le
 simp at this; omega
theorem qTZ {s : List UInt8} {k : Nat} (h : 0 < zO s k) : k < s.length := ((qRB (Nat.zero_le _)).1 h).1
theorem uI {s : List UInt8} {k i : Nat} (h : i < zO s k) : k + i < s.length ∧ 48 ≤ qM s (k + i) ∧ qM s (k + i) ≤ 57 := by
 have := (qRB (Nat.le_of_lt h)).1 h
 simpa [kG] using this
theorem upM_range {s : List UInt8} {k : Nat} : ∀ {i : Nat}, i ≤ 2 → i ≤ zO s k → 0 ≤ upM s k i ∧ upM s k i ≤ 99 ∧ (i ≤ 1 → upM s k i ≤ 9)
 | 0, _, _ => by simp [upM]
 | 1, _, h => by have := uI (s := s) (k := k) (i := 0) (by omega); simp [upM] at this ⊢; omega
 | 2, _, h => by
  have h1 := uI (s := s) (k := k) (i := 0) (by omega)
  have h2 := uI (s := s) (k := k) (i := 1) (by omega)
  simp [upM] at h1 h2 ⊢; omega
theorem a0M_le (s : List UInt8) : a0M s ≤ 1 := by unfold a0M; split <;> omega
theorem Parse_ev (s : List UInt8) (hs : s.length ≤ 100000) : AFn Tryz.prog G 26 [.str s] (.tup [(qEI s).1.enc, .int .i64 (qEI s).2]) := by
 refine AFn.introU tok Tryz.func26 (by kernel_rfl) rfl rfl ?_
 simp only [Tryz.f26, qK, List.map_cons, List.map_nil]
 have hrun := fun k hk => run_ev (G := G) s k (by omega) hk
 have hix : ∀ k : Nat, k < s.length → s[k]? = some (s.getD k 0) := fun k h => kT h
 refine rgn [] [[], [0, 2]] ?_
 iterate 2 refine op1 tok ?_
 refine qA ?_
 refine rgn [] [[]] ?_
 refine op1 tok ?_
 refine qA ?_
 refine rgn [.int .u8 (qM s 0)] [[], [], [], [], [], [0, 2, 4, 15, 17], [], [], [0, 2, 4, 5]] ?_
 iterate 4 refine op1 tok ?_ (hv := by first | with_reducible exact True.intro | (first | exact fun h => ⟨h, by omega, _, hix 0 (by omega), rfl⟩ | exact fun h => ⟨h, _, hix 0 (by omega), rfl⟩ | simp; done) | omega | simp | (simp +contextual; omega))
 iterate 3 refine op2 tok ?_ (hv := by first | with_reducible exact True.intro | (first | exact fun h => ⟨h, by omega, _, hix 0 (by omega), rfl⟩ | exact fun h => ⟨h, _, hix 0 (by omega), rfl⟩ | simp; done) | omega | simp | (simp +contextual; omega))
 iterate 2 refine op1 tok ?_ (hv := by first | with_reducible exact True.intro | (first | exact fun h => ⟨h, by omega, _, hix 0 (by omega), rfl⟩ | exact fun h => ⟨h, _, hix 0 (by omega), rfl⟩ | simp; done) | omega | simp | (simp +contextual; omega))
 refine qA ?_
 refine AW.join (α := Unit) (fun _ => True) (fun a => ⟨qW 175 [(0, .p (.str s)), (2, .ptr 2 0), (4, .p (.int .i64 (a0M s))), (5, .p (.bool (jK s)))], [], [(2, .vars 26 [.p (.bool false), .p (.str []), .p (.int .i64 0)])], 0⟩) ?_ ?_
 ·
  refine rgn [] [[]] ?_
  refine op1 tok ?_
  refine qA ?_
  refine cnd ?_ ?_
  ·intro h20
   try simp at h20
   refine rgz [] [[]] ?_
   refine op1 tok ?_
   refine qA ?_
   exact ⟨(), trivial, qB (by simp [a0M, jK, h20]), rfl, by simp [a0M, jK, h20], by simp [a0M, jK, h20]⟩
  ·intro h20
   try simp at h20
   have hneg : jK s = false := by
    rw [← Bool.not_eq_true]; intro h; simp only [jK, Bool.and_eq_true, decide_eq_true_eq] at h; exact h20 h.1 h.2
   have hneg0 := hneg
   have ha00 : a0M s = 0 := by simp [a0M, hneg]
   simp only [jK] at hneg0
   refine AW.skip ?_
   exact ⟨(), trivial, qB (by simp [ha00, hneg0, hneg]), rfl, by simp [ha00, hneg0, hneg], by simp [ha00, hneg0, hneg]⟩
 ·
  rintro a hI
  have ha0 := a0M_le s
  have hn0 := qRC s (a0M s)
  have hp0 := qTZ (s := s) (k := a0M s)
  have hin0 := qGI s (a0M s)
  refine rgn [.nilp, .int .i64 (zO s (a0M s))] [[], [], [], [0, 2, 4, 5, 6]] ?_
  iterate 4 refine op1 tok ?_ (hv := by first | with_reducible exact True.intro | (simp [hrun (a0M s) (by have := a0M_le s; omega)]; done) | omega | simp | (simp +contextual; omega))
  refine qA ?_
  refine AW.seq ?_
  refine rgn [.int .u8 (qM s (a0M s))] [[], [], [], [], [], [0, 2, 4, 5, 6, 26, 29], [], [], [], [], [0, 2, 4, 5, 6, 26, 34], [0, 2, 4, 5, 6, 35]] ?_
  iterate 3 refine op1 tok ?_ (hv := by first | with_reducible exact True.intro | (first | exact fun h1 h2 => ⟨⟨h1, h2⟩, _, hix (a0M s) (hp0 (by omega)), rfl⟩ | exact fun h1 => ⟨h1, fun h2 => ⟨h1, h2⟩⟩ | simp; done) | omega | simp | (simp +contextual; omega))
  iterate 8 refine op2 tok ?_ (hv := by first | with_reducible exact True.intro | (first | exact fun h1 h2 => ⟨⟨h1, h2⟩, _, hix (a0M s) (hp0 (by omega)), rfl⟩ | exact fun h1 => ⟨h1, fun h2 => ⟨h1, h2⟩⟩ | simp; done) | omega | simp | (simp +contextual; omega))
  refine op1 tok ?_ (hv := by first | with_reducible exact True.intro | (first | exact fun h1 h2 => ⟨⟨h1, h2⟩, _, hix (a0M s) (hp0 (by omega)), rfl⟩ | exact fun h1 => ⟨h1, fun h2 => ⟨h1, h2⟩⟩ | simp; done) | omega | simp | (simp +contextual; omega))
  refine qA ?_
  refine cnd ?_ ?_
  ·intro h35
   try simp at h35
   have hP : qEI s = jZ := by unfold qEI; rw [if_pos (by omega)]
   refine rgn [] [[], [], [2, 3]] ?_
   iterate 3 refine op1 tok ?_
   refine qA ?_
   exact AW.ret ⟨.inr rfl, _, _, by (conv => lhs; simp), trivial, by simp [hP, jZ]⟩
  ·intro h35
   try simp at h35
   have hP : qEI s = qIX s (jK s) (qDM s (a0M s + zO s (a0M s)) ((s.take (a0M s + zO s (a0M s))).drop (a0M s))) := by unfold qEI; rw [if_neg (by omega)]
   rw [hP]
   have hin := hin0 (by have := hp0 (by omega); omega)
   generalize hdg : (s.take (a0M s + zO s (a0M s))).drop (a0M s) = dg0
   have hdgl : dg0.length ≤ s.length := by rw [← hdg]; simp; omega
   obtain ⟨k1, hk1⟩ : ∃ k1, k1 = a0M s + zO s (a0M s) := ⟨_, rfl⟩
   rw [← hk1] at hin hdg ⊢
   refine AW.skip ?_
   refine rgn [] [[], [], [], [], [], [0, 2, 4, 5, 6, 42], [0, 2, 4, 5, 6, 7]] ?_
   iterate 7 refine op1 tok ?_ (hv := by first | with_reducible exact True.intro | (omega; done) | omega | simp | (simp +contextual; omega))
   refine qA ?_
   refine rgn [] [[], [], [0, 2, 5, 7, 45], [0, 2, 4, 5, 7]] ?_
   iterate 4 refine op1 tok ?_
   refine qA ?_
   rw [show ((a0M s : Int) + (zO s (a0M s) : Nat)) = (k1 : Nat) by omega]
   refine rgn [] [[]] ?_
   refine op1 tok ?_
   refine qA ?_
   refine AW.join (α := Nat × List UInt8 × Nat) (fun a => qDM s k1 dg0 = some a ∧ a.1 ≤ s.length ∧ a.2.1.length ≤ 200000 ∧ a.2.2 ≤ s.length) (fun a => ⟨qW 175 [(0, .p (.str s)), (2, .ptr 2 0), (4, .p (.int .i64 a.1)), (5, .p (.bool (jK s))), (7, .p (.str a.2.1)), (8, .p (.int .i64 a.2.2))], [], [(2, .vars 26 [.p (.bool false), .p (.str []), .p (.int .i64 0)])], 0⟩) ?_ ?_
   ·
    have hr1 := qGI s (k1 + 1)
    refine rgn [.int .u8 (qM s k1)] [[], [], [], [], [0, 2, 4, 5, 7, 8, 50], [], [], [], [], [0, 2, 4, 5, 7, 8, 55]] ?_
    iterate 5 refine op1 tok ?_ (hv := by first | with_reducible exact True.intro | (first | exact fun h => ⟨h, _, hix k1 (by omega), rfl⟩ | simp; done) | omega | simp | (simp +contextual; omega))
    iterate 4 refine op2 tok ?_ (hv := by first | with_reducible exact True.intro | (first | exact fun h => ⟨h, _, hix k1 (by omega), rfl⟩ | simp; done) | omega | simp | (simp +contextual; omega))
    refine op1 tok ?_ (hv := by first | with_reducible exact True.intro | (first | exact fun h => ⟨h, _, hix k1 (by omega), rfl⟩ | simp; done) | omega | simp | (simp +contextual; omega))
    refine qA ?_
    refine cnd ?_ ?_
    ·intro h55
     try simp at h55
     refine rgn [.nilp, .int .i64 (zO s (k1 + 1))] [[], [], [], [], [0, 2, 4, 5, 7, 8]] ?_
     iterate 5 refine op1 tok ?_ (hv := by first | with_reducible exact True.intro | (first | omega | exact hrun (k1 + 1) (by omega); done) | omega | simp | (simp +contextual; omega))
     refine qA ?_
     refine AW.seq ?_
     refine rgn [] [[], [0, 2, 4, 5, 7, 8, 61]] ?_
     iterate 2 refine op1 tok ?_
     refine qA ?_
     refine cnd ?_ ?_
     ·intro h61
      try simp at h61
      have hP2 : qDM s k1 dg0 = none := by simp [qDM, h55.1, h55.2, h61]
      refine rgn [] [[], [], [2, 3]] ?_
      iterate 3 refine op1 tok ?_
      refine qA ?_
      exact AW.ret ⟨.inr rfl, _, _, by (conv => lhs; simp), trivial, by simp [hP2, qIX, jZ]⟩
     ·intro h61
      try simp at h61
      refine AW.skip ?_
      refine rgn [] [[], [], [], [], [], [], [], [0, 2, 4, 5, 8, 63, 64, 66, 70], [], [0, 2, 4, 5, 8, 72], [0, 2, 4, 5, 7, 8]] ?_
      iterate 11 refine op1 tok ?_
      refine qA ?_
      refine rgz [] [[], [], [], [0, 2, 5, 7, 8, 76], [0, 2, 4, 5, 7, 8]] ?_
      iterate 5 refine op1 tok ?_
      refine qA ?_
      exact ⟨(k1 + 1 + zO s (k1 + 1), dg0 ++ (s.take (k1 + 1 + zO s (k1 + 1))).drop (k1 + 1), zO s (k1 + 1)), ⟨by simp [qDM, h55.1, h55.2, h61], hr1 (by omega), by simp; omega, by have := hr1 (by omega); show zO s (k1 + 1) ≤ s.length; omega⟩, qB (by simp [hdg, show ((k1 : Int) + 1 + (zO s (k1 + 1) : Nat)).toNat = k1 + 1 + zO s (k1 + 1) from by omega]), rfl, by simp [hdg, show ((k1 : Int) + 1 + (zO s (k1 + 1) : Nat)).toNat = k1 + 1 + zO s (k1 + 1) from by omega], by simp [hdg, show ((k1 : Int) + 1 + (zO s (k1 + 1) : Nat)).toNat = k1 + 1 + zO s (k1 + 1) from by omega]⟩
    ·intro h55
     try simp at h55
     refine AW.skip ?_
     exact ⟨(k1, dg0, 0), ⟨by simp only [qDM]; rw [if_neg (by intro h; exact h55 h.1 h.2)], hin, by show dg0.length ≤ 200000; omega, by simp⟩, qB (by simp [hdg]), rfl, by simp [hdg], by simp [hdg]⟩
   ·
    rintro ⟨k, digits, scale⟩ ⟨hp2, hk, hdl, hsc⟩
    simp only at hk hdl hsc
    have hT : qIX s (jK s) (qDM s k1 dg0) = qCV s (jK s) digits scale (qDL s k) := by rw [hp2]; rfl
    rw [hT]
    have hix1 : (k : Int) + 1 < s.length → s[((k : Int) + 1).toNat]? = some (s.getD (k + 1) 0) := fun h => by rw [show ((k : Int) + 1).toNat = k + 1 by omega]; exact hix (k + 1) (by omega)
    refine rgn [] [[]] ?_
    refine op1 tok ?_
    refine qA ?_
    refine AW.join (α := Nat × Int) (fun b => qDL s k = some b ∧ b.1 ≤ 300000 ∧ -99 ≤ b.2 ∧ b.2 ≤ 99) (fun b => ⟨qW 175 [(0, .p (.str s)), (2, .ptr 2 0), (4, .p (.int .i64 b.1)), (5, .p (.bool (jK s))), (7, .p (.str digits)), (8, .p (.int .i64 scale)), (9, .p (.int .i64 b.2))], [], [(2, .vars 26 [.p (.bool false), .p (.str []), .p (.int .i64 0)])], 0⟩) ?_ ?_
    ·
     refine rgn [.int .u8 (qM s k), .int .u8 (qM s k)] [[], [], [], [], [0, 2, 4, 5, 7, 8, 9, 81], [], [], [], [], [0, 2, 4, 5, 7, 8, 9, 81, 86], [], [], [], [], [0, 2, 4, 5, 7, 8, 9, 81, 91], [0, 2, 4, 5, 7, 8, 9, 92]] ?_
     iterate 5 refine op1 tok ?_ (hv := by first | with_reducible exact True.intro | (((repeat' (first | with_reducible apply And.intro | intro _)) <;> first | omega | assumption | contradiction | exact ⟨_, hix _ (by omega), rfl⟩ | simp_all); done) | omega | simp | (simp +contextual; omega))
     iterate 10 refine op2 tok ?_ (hv := by first | with_reducible exact True.intro | (((repeat' (first | with_reducible apply And.intro | intro _)) <;> first | omega | assumption | contradiction | exact ⟨_, hix _ (by omega), rfl⟩ | simp_all); done) | omega | simp | (simp +contextual; omega))
     refine op1 tok ?_ (hv := by first | with_reducible exact True.intro | (((repeat' (first | with_reducible apply And.intro | intro _)) <;> first | omega | assumption | contradiction | exact ⟨_, hix _ (by omega), rfl⟩ | simp_all); done) | omega | simp | (simp +contextual; omega))
     refine qA ?_
     refine cnd ?_ ?_
     ·intro h92
      try simp at h92
      refine rgn [] [[], [], [0, 2, 4, 5, 7, 8, 9]] ?_
      iterate 3 refine op1 tok ?_
      refine qA ?_
      refine rgn [.int .u8 (qM s (k + 1))] [[], [], [], [], [0, 2, 4, 5, 7, 8, 9, 99], [], [], [], [], [0, 2, 4, 5, 7, 8, 9, 104], [0, 2, 4, 5, 7, 8, 9, 10]] ?_
      iterate 5 refine op1 tok ?_ (hv := by first | with_reducible exact True.intro | (((repeat' (first | with_reducible apply And.intro | intro _)) <;> first | omega | assumption | contradiction | exact ⟨_, hix _ (by omega), rfl⟩ | simp_all); done) | omega | simp | (simp +contextual; omega))
      iterate 4 refine op2 tok ?_ (hv := by first | with_reducible exact True.intro | (((repeat' (first | with_reducible apply And.intro | intro _)) <;> first | omega | assumption | contradiction | exact ⟨_, hix _ (by omega), rfl⟩ | simp_all); done) | omega | simp | (simp +contextual; omega))
      iterate 2 refine op1 tok ?_ (hv := by first | with_reducible exact True.intro | (((repeat' (first | with_reducible apply And.intro | intro _)) <;> first | omega | assumption | contradiction | exact ⟨_, hix _ (by omega), rfl⟩ | simp_all); done) | omega | simp | (simp +contextual; omega))
      refine qA ?_
      refine AW.join (α := Unit) (fun _ => True) (fun a => ⟨qW 175 [(0, .p (.str s)), (2, .ptr 2 0), (4, .p (.int .i64 (wS s (k + 1)))), (5, .p (.bool (jK s))), (7, .p (.str digits)), (8, .p (.int .i64 scale)), (9, .p (.int .i64 0)), (10, .p (.bool (decide (k + 1 < s.length) && decide (qM s (k + 1) = 45))))], [], [(2, .vars 26 [.p (.bool false), .p (.str []), .p (.int .i64 0)])], 0⟩) ?_ ?_
      ·
       refine rgn [.int .u8 (qM s (k + 1)), .int .u8 (qM s (k + 1))] [[], [], [], [], [0, 2, 4, 5, 7, 8, 9, 10, 109], [], [], [], [], [0, 2, 4, 5, 7, 8, 9, 10, 109, 114], [], [], [], [], [0, 2, 4, 5, 7, 8, 9, 10, 109, 119], [0, 2, 4, 5, 7, 8, 9, 10, 120]] ?_
       iterate 5 refine op1 tok ?_ (hv := by first | with_reducible exact True.intro | (((repeat' (first | with_reducible apply And.intro | intro _)) <;> first | omega | assumption | contradiction | exact ⟨_, hix _ (by omega), rfl⟩ | simp_all); done) | omega | simp | (simp +contextual; omega))
       iterate 10 refine op2 tok ?_ (hv := by first | with_reducible exact True.intro | (((repeat' (first | with_reducible apply And.intro | intro _)) <;> first | omega | assumption | contradiction | exact ⟨_, hix _ (by omega), rfl⟩ | simp_all); done) | omega | simp | (simp +contextual; omega))
       refine op1 tok ?_ (hv := by first | with_reducible exact True.intro | (((repeat' (first | with_reducible apply And.intro | intro _)) <;> first | omega | assumption | contradiction | exact ⟨_, hix _ (by omega), rfl⟩ | simp_all); done) | omega | simp | (simp +contextual; omega))
       refine qA ?_
       refine cnd ?_ ?_
       ·intro h120
        try simp at h120
        refine rgz [] [[], [], [0, 2, 4, 5, 7, 8, 9, 10]] ?_
        iterate 3 refine op1 tok ?_
        refine qA ?_
        exact ⟨(), trivial, qB (by simp [show wS s (k + 1) = k + 1 + 1 from by (unfold wS; rw [if_pos ⟨by omega, h120.2⟩]), show ((k : Int) + 1 < (s.length : Int)) = (k + 1 < s.length) from propext (by omega)]), rfl, by simp [show wS s (k + 1) = k + 1 + 1 from by (unfold wS; rw [if_pos ⟨by omega, h120.2⟩]), show ((k : Int) + 1 < (s.length : Int)) = (k + 1 < s.length) from propext (by omega)], by simp [show wS s (k + 1) = k + 1 + 1 from by (unfold wS; rw [if_pos ⟨by omega, h120.2⟩]), show ((k : Int) + 1 < (s.length : Int)) = (k + 1 < s.length) from propext (by omega)]⟩
       ·intro h120
        try simp at h120
        refine AW.skip ?_
        exact ⟨(), trivial, qB (by simp [show wS s (k + 1) = k + 1 from by (unfold wS; rw [if_neg (by intro h; have := h120 (by omega); omega)]), show ((k : Int) + 1 < (s.length : Int)) = (k + 1 < s.length) from propext (by omega)]), rfl, by simp [show wS s (k + 1) = k + 1 from by (unfold wS; rw [if_neg (by intro h; have := h120 (by omega); omega)]), show ((k : Int) + 1 < (s.length : Int)) = (k + 1 < s.length) from propext (by omega)], by simp [show wS s (k + 1) = k + 1 from by (unfold wS; rw [if_neg (by intro h; have := h120 (by omega); omega)]), show ((k : Int) + 1 < (s.length : Int)) = (k + 1 < s.length) from propext (by omega)]⟩
      ·
       rintro a hI
       have hsg : wS s (k + 1) ≤ s.length + 1 := by unfold wS; split <;> omega
       have hin3 := qGI s (wS s (k + 1))
       have hp3 := qTZ (s := s) (k := wS s (k + 1))
       have hn3 := qRC s (wS s (k + 1))
       obtain ⟨k3, hk3⟩ : ∃ k3, k3 = wS s (k + 1) := ⟨_, rfl⟩
       rw [← hk3] at hsg hin3 hp3 hn3 ⊢
       refine rgn [.nilp, .int .i64 (zO s k3)] [[], [], [], [0, 2, 4, 5, 6, 7, 8, 9, 10]] ?_
       iterate 4 refine op1 tok ?_ (hv := by first | with_reducible exact True.intro | (exact hrun k3 (by omega); done) | omega | simp | (simp +contextual; omega))
       refine qA ?_
       refine AW.seq ?_
       refine rgn [] [[], [], [], [], [], [0, 2, 4, 5, 6, 7, 8, 9, 10, 131]] ?_
       iterate 3 refine op1 tok ?_
       iterate 2 refine op2 tok ?_
       refine op1 tok ?_
       refine qA ?_
       refine cnd ?_ ?_
       ·intro h131
        try simp at h131
        have hP3 : qDL s k = none := by simp only [qDL]; rw [if_pos h92, ← hk3, if_pos (by omega)]
        refine rgn [] [[], [], [2, 3]] ?_
        iterate 3 refine op1 tok ?_
        refine qA ?_
        exact AW.ret ⟨.inr rfl, _, _, by (conv => lhs; simp), trivial, by simp [hP3, qCV, jZ]⟩
       ·intro h131
        try simp at h131
        have hP3 : qDL s k = some (k3 + zO s k3, if k + 1 < s.length ∧ qM s (k + 1) = 45 then - upM s k3 (zO s k3) else upM s k3 (zO s k3)) := by simp only [qDL]; rw [if_pos h92, ← hk3, if_neg (by omega)]
        have hk3l : k3 < s.length := hp3 (by omega)
        have hdig := fun i => uI (s := s) (k := k3) (i := i)
        refine AW.skip ?_
        refine AW.seq ?_
        refine rgn [] [[]] ?_
        refine op1 tok ?_
        refine qA ?_
        refine AW.block ?_
        refine AW.loop (α := Nat) (fun i => i ≤ zO s k3) (fun i => ⟨qW 175 [(0, .p (.str s)), (2, .ptr 2 0), (4, .p (.int .i64 k3)), (5, .p (.bool (jK s))), (6, .p (.int .i64 (zO s k3))), (7, .p (.str digits)), (8, .p (.int .i64 scale)), (9, .p (.int .i64 (upM s k3 i))), (10, .p (.bool (decide (k + 1 < s.length) && decide (qM s (k + 1) = 45)))), (11, .p (.int .i64 i))], [], [(2, .vars 26 [.p (.bool false), .p (.str []), .p (.int .i64 0)])], 0⟩) (fun i => zO s k3 - i) (0) (by omega) ⟨qB (by simp [upM]), rfl, by simp, by simp⟩ ?_
        rintro i hi
        have hup := upM_range (s := s) (k := k3) (i := i) (by omega) hi
        refine AW.seq ?_
        refine rgn [] [[], [], [0, 2, 4, 5, 6, 7, 8, 9, 10, 11, 135]] ?_
        iterate 3 refine op1 tok ?_
        refine qA ?_
        refine cnd ?_ ?_
        ·intro h135
         try simp at h135
         have hdi := hdig i h135
         have hw : IntKind.u8.wrap (qM s (k3 + i) - 48) = qM s (k3 + i) - 48 := by simp [IntKind.wrap, IntKind.bits, IntKind.signed]; omega
         refine AW.skip ?_
         refine AW.seq ?_
         refine AW.block ?_
         refine rgz [.int .u8 (qM s (k3 + i))] [[], [], [], [], [], [0, 2, 4, 5, 6, 7, 8, 10, 11, 139, 140, 143], [], [], [0, 2, 4, 5, 6, 7, 8, 10, 11, 139, 146], [], [0, 2, 4, 5, 6, 7, 8, 9, 10, 11]] ?_
         iterate 11 refine op1 tok ?_ (hv := by first | with_reducible exact True.intro | (((repeat' (first | with_reducible apply And.intro | intro _)) <;> first | omega | assumption | contradiction | exact ⟨_, hix _ (by omega), rfl⟩ | (rw [hw]; omega) | simp_all); done) | omega | simp | (simp +contextual; omega))
         refine qA ?_
         refine rgz [] [[], [], [0, 2, 4, 5, 6, 7, 8, 9, 10, 11]] ?_
         iterate 3 refine op1 tok ?_
         refine qA ?_
         exact ⟨i + 1, by omega, by omega, qB (by simp [upM, hw]), rfl, by simp [upM, hw], by simp [upM, hw]⟩
        ·intro h135
         try simp at h135
         have hi2 : i = zO s k3 := by omega
         subst hi2
         have hup2 := hin3 (by omega)
         have hw2 : IntKind.i64.wrap (- upM s k3 (zO s k3)) = - upM s k3 (zO s k3) := by simp [IntKind.wrap, IntKind.bits, IntKind.signed]; omega
         refine AW.exit ?_
         simp
         refine rgn [] [[], [], [0, 2, 5, 7, 8, 9, 10, 150], [0, 2, 4, 5, 7, 8, 9, 10]] ?_
         iterate 4 refine op1 tok ?_
         refine qA ?_
         refine rgn [] [[0, 2, 4, 5, 7, 8, 9, 151]] ?_
         refine op1 tok ?_
         refine qA ?_
         refine cnd ?_ ?_
         ·intro h151
          try simp at h151
          rw [if_pos h151] at hP3
          refine rgz [] [[], [], [0, 2, 4, 5, 7, 8, 9]] ?_
          iterate 3 refine op1 tok ?_
          refine qA ?_
          exact ⟨k3 + zO s k3, - upM s k3 (zO s k3), ⟨hP3, by omega, by omega, by omega⟩, qB (by simp [hw2]), rfl, by simp [hw2], by simp [hw2]⟩
         ·intro h151
          try simp at h151
          rw [if_neg (by intro h; exact h151 h.1 h.2)] at hP3
          refine AW.skip ?_
          exact ⟨k3 + zO s k3, upM s k3 (zO s k3), ⟨hP3, by omega, by omega, by omega⟩, qB (by simp), rfl, by simp, by simp⟩
     ·intro h92
      try simp at h92
      refine AW.skip ?_
      exact ⟨(k, 0), ⟨by simp only [qDL]; rw [if_neg (by intro h; have := h92 h.1; omega)], by show k ≤ 300000; omega, by simp, by simp⟩, qB (by simp), rfl, by simp, by simp⟩
    ·
     rintro ⟨k2, up⟩ ⟨hp3, hk2, hu1, hu2⟩
     simp only at hk2 hu1 hu2
     rw [hp3]
     refine AW.seq ?_
     refine rgn [] [[], [], [], [2, 5, 7, 8, 9, 157]] ?_
     iterate 4 refine op1 tok ?_
     refine qA ?_
     refine cnd ?_ ?_
     ·intro h157
      try simp at h157
      have hR : qCV s (jK s) digits scale (some (k2, up)) = jZ := by simp only [qCV]; rw [if_neg (by omega)]
      refine rgn [] [[], [], [2, 3]] ?_
      iterate 3 refine op1 tok ?_
      refine qA ?_
      exact AW.ret ⟨.inr rfl, _, _, by (conv => lhs; simp), trivial, by simp [hR, jZ]⟩
     ·intro h157
      try simp at h157
      have hR : qCV s (jK s) digits scale (some (k2, up)) = xT (jK s) digits (scale - up) := by simp only [qCV]; rw [if_pos (by omega)]
      rw [hR]
      clear hR hp3
      have hw3 : IntKind.i64.wrap (-((scale : Int) - up)) = -((scale : Int) - up) := by simp [IntKind.wrap, IntKind.bits, IntKind.signed]; omega
      have hz := qSU (G := G) (-((scale : Int) - up)) (by omega)
      have hzl : (zU (-((scale : Int) - up)).toNat).length ≤ 300000 := by simp [zU]; omega
      refine AW.skip ?_
      refine rgn [] [[], [], [2, 5, 7, 161], [2, 5, 7, 8]] ?_
      iterate 4 refine op1 tok ?_
      refine qA ?_
      refine AW.seq ?_
      refine rgn [] [[], [2, 5, 7, 8, 163]] ?_
      iterate 2 refine op1 tok ?_
      refine qA ?_
      refine cnd ?_ ?_
      ·intro h163
       try simp at h163
       have hL : xT (jK s) digits ((scale : Int) - up) = wD (jK s) (digits ++ zU (-((scale : Int) - up)).toNat) 0 := by simp only [xT]; rw [if_pos (by omega)]
       have hN := Norm_ev (G := G) (jK s) (digits ++ zU (-((scale : Int) - up)).toNat) 0 (by simp; omega) (by omega)
       refine rgn [.nilp, .str (zU (-((scale : Int) - up)).toNat)] [[], [], [], [2, 5, 164, 167], [], [2, 5, 7]] ?_
       iterate 6 refine op1 tok ?_ (hv := by first | with_reducible exact True.intro | (first | (rw [hw3]; exact hz) | omega; done) | omega | simp | (simp +contextual; omega))
       refine qA ?_
       refine rgz [] [[]] ?_
       refine op1 tok ?_
       refine qA ?_
       refine rgn [.nilp, .tup [(wD (jK s) (digits ++ zU (-((scale : Int) - up)).toNat) 0).1.enc, .int .i64 (wD (jK s) (digits ++ zU (-((scale : Int) - up)).toNat) 0).2]] [[], [], [], [2, 172], [], [], [], [2, 3]] ?_
       iterate 8 refine op1 tok ?_ (hv := by first | with_reducible exact True.intro | (first | exact hN | simp; done) | omega | simp | (simp +contextual; omega))
       refine qA ?_
       exact AW.ret ⟨.inr rfl, _, _, by (conv => lhs; simp), trivial, by simp [hL]⟩
      ·intro h163
       try simp at h163
       obtain ⟨sc, hsc2⟩ : ∃ sc : Nat, (sc : Int) = (scale : Int) - up := ⟨((scale : Int) - up).toNat, by omega⟩
       have hL : xT (jK s) digits ((scale : Int) - up) = wD (jK s) digits sc := by simp only [xT]; rw [if_neg (by omega), ← hsc2]; rfl
       have hN := Norm_ev (G := G) (jK s) digits sc (by omega) (by omega)
       rw [hsc2] at hN
       refine AW.skip ?_
       refine rgn [.nilp, .tup [(wD (jK s) digits sc).1.enc, .int .i64 (wD (jK s) digits sc).2]] [[], [], [], [2, 172], [], [], [], [2, 3]] ?_
       iterate 8 refine op1 tok ?_ (hv := by first | with_reducible exact True.intro | (first | exact hN | simp; done) | omega | simp | (simp +contextual; omega))
       refine qA ?_
       exact AW.ret ⟨.inr rfl, _, _, by (conv => lhs; simp), trivial, by simp [hL]⟩
def qBC (d : Dc) : List UInt8 := zU (d.scale.toNat + 1 - d.digits.length) ++ d.digits
def qCR (d : Dc) : List UInt8 := (if d.neg = true then [45] else []) ++ (if d.scale = 0 then qBC d else (qBC d).take ((qBC d).length - d.scale.toNat) ++ 46 :: (qBC d).drop ((qBC d).length - d.scale.toNat))
theorem qAL {s : List UInt8} {k : Nat} {b : UInt8} {t : List UInt8} (h : s.drop k = b :: t) : k < s.length ∧ qM s k = b.toNat := by
 have h1 : k < s.length := by
  rcases Nat.lt_or_ge k s.length with h1 | h1
  ·exact h1
  ·rw [List.drop_eq_nil_of_le h1] at h; cases h
 refine ⟨h1, ?_⟩
 have : s[k]? = some b := by
  have := congrArg (fun l => l[0]?) h
  simpa using this
 simp [qM, List.getD_eq_getElem?_getD, this]
theorem qTP (n : Nat) (s : List UInt8) : qL (zU n ++ s) = qL s := by
 induction n with
 | zero => rfl
 | succ n ih => simp only [zU, List.replicate_succ, List.cons_append, qL, List.dropWhile_cons] at ih ⊢; simp [ih]
theorem norm_back {d : Dc} (h : zC d = true) (n : Nat) : wD d.neg (zU n ++ d.digits) d.scale.toNat = (d, 0) := by
 unfold zC at h
 simp only [Bool.and_eq_true, decide_eq_true_eq] at h
 obtain ⟨⟨h1, h2⟩, h3⟩ := h
 unfold wD
 rw [qTP]
 by_cases hz : d.digits = [48]
 ·rw [if_pos hz] at h3
  simp at h3
  have : qL d.digits = [] := by rw [hz]; rfl
  rw [this, h3.1]
  simp only [Int.toNat_zero, wB, if_true]
  obtain ⟨ng, dg, sc⟩ := d
  simp only at hz h3 ⊢
  rw [hz, h3.1, h3.2]
 ·rw [if_neg hz] at h3
  simp at h3
  obtain ⟨ng, dg, sc⟩ := d
  simp only at hz h1 h2 h3 ⊢
  have e1 : qL dg = dg := by
   cases dg with
   | nil => rfl
   | cons b t =>
    have hb : b ≠ 48 := by rintro rfl; exact h3.1 rfl
    simp [qL, List.dropWhile_cons, hb]
  have e2 : wB dg sc.toNat = (dg, sc.toNat) := by
   cases hs : sc.toNat with
   | zero => rfl
   | succ k =>
    simp only [wB]
    rw [if_neg]
    intro hl
    have := (qAK (d := dg) (by omega)).2 hl
    rcases h3.2 with h | h
    ·omega
    ·exact h this
  rw [e1, e2]
  simp only
  rw [if_neg (by intro e; rw [e] at h2; simp at h2), if_neg (by omega)]
  rw [show ((sc.toNat : Nat) : Int) = sc by omega]
def yC (t : List UInt8) : List UInt8 := if t.head? = some 45 ∨ t.head? = some 43 then t.drop 1 else t
def qBL (s : List UInt8) : Option Int := match s with
 | [] => some 0
 | b :: t => if b ≠ 101 ∧ b ≠ 69 then none
  else if (yC t).dropWhile qG ≠ [] ∨ ((yC t).takeWhile qG).length < 1 ∨ 2 < ((yC t).takeWhile qG).length then none
  else some (if t.head? = some 45 then - (qBT ((yC t).takeWhile qG) : Int) else qBT ((yC t).takeWhile qG))
def qLP (s : List UInt8) : Bool := decide (s.head? = some 45)
def xU (s : List UInt8) : List UInt8 := if s.head? = some 45 then s.drop 1 else s
def qAJ (r : List UInt8) : Option (List UInt8 × List UInt8) :=
 if r.head? = some 46 then (if (r.drop 1).takeWhile qG = [] then none else some ((r.drop 1).takeWhile qG, (r.drop 1).dropWhile qG)) else some ([], r)
def qNN (neg : Bool) (W P : List UInt8) : Option Int → Dc × Int
 | none => jZ
 | some up => if W = [] ∨ (1 < W.length ∧ W.head? = some 48) then jZ else xT neg (W ++ P) (P.length - up)
def wC (s : List UInt8) : Dc × Int := match qAJ ((xU s).dropWhile qG) with
 | none => jZ
 | some (P, r) => qNN (qLP s) ((xU s).takeWhile qG) P (qBL r)
theorem tw_of {W F : List UInt8} (hW : W.all qG = true) (hF : ∀ b, F.head? = some b → qG b = false) : (W ++ F).takeWhile qG = W ∧ (W ++ F).dropWhile qG = F := by
 induction W with
 | nil =>
  cases F with
  | nil => exact ⟨rfl, rfl⟩
  | cons b F => have := hF b rfl; simp [List.takeWhile_cons, List.dropWhile_cons, this]
 | cons b W ih =>
  simp only [List.all_cons, Bool.and_eq_true] at hW
  obtain ⟨h1, h2⟩ := ih hW.2
  simp [List.takeWhile_cons, List.dropWhile_cons, hW.1, h1, h2]
theorem qUI (ng : Bool) (W R : List UInt8) (hW : W.all qG = true) (hR : R.all qG = true) (h0 : W ≠ []) (h1 : W.length = 1 ∨ qM W 0 ≠ 48) :
  wC ((if ng = true then [45] else []) ++ (W ++ if R = [] then [] else 46 :: R)) = wD ng (W ++ R) R.length := by
 generalize hF : (if R = [] then [] else 46 :: R) = F
 generalize hs : ((if ng = true then [45] else []) ++ (W ++ F)) = s
 obtain ⟨w0, W', rfl⟩ : ∃ w0 W', W = w0 :: W' := by cases W with
  | nil => exact absurd rfl h0
  | cons a W => exact ⟨a, W, rfl⟩
 have hw0 : qG w0 = true := by simp only [List.all_cons, Bool.and_eq_true] at hW; exact hW.1
 have hw1 : w0 ≠ 45 := by rintro rfl; revert hw0; decide
 have hb : xU s = (w0 :: W') ++ F ∧ qLP s = ng := by
  rw [← hs]
  cases ng with
  | true => simp [xU, qLP]
  | false => simp [xU, qLP, hw1]
 have hFh : ∀ b, F.head? = some b → qG b = false := by
  rw [← hF]; split
  ·simp
  ·intro b hb; simp at hb; subst hb; decide
 obtain ⟨t1, t2⟩ := tw_of hW hFh
 have hfr : qAJ F = some (R, []) := by
  rw [← hF]
  split
  ·rename_i hR0; subst hR0; rfl
  ·rename_i hR0
   obtain ⟨t3, t4⟩ := tw_of (W := R) (F := []) hR (by simp)
   rw [List.append_nil] at t3 t4
   unfold qAJ
   simp only [List.head?_cons, if_true, List.drop_succ_cons, List.drop_zero, t3, t4]
   rw [if_neg hR0]
 unfold wC
 rw [hb.1, hb.2, t1, t2, hfr]
 simp only [qBL, qNN]
 rw [if_neg (by
  rintro (h | ⟨h, h'⟩)
  ·cases h
  ·rcases h1 with h1 | h1
   ·omega
   ·simp at h'; subst h'; exact h1 rfl)]
 unfold xT
 rw [if_neg (by omega)]
 simp
structure RS where
 left : List UInt8
 nodes : Nat
 bad : Bool
 deep : Bool
 big : Bool
 deriving DecidableEq
def zZ (st : RS) (k : Nat) : RS := { st with left := st.left.drop k }
def qMC (b : UInt8) : Bool := b == 32 || b == 9 || b == 13 || b == 10
def yQ (s : List UInt8) : List UInt8 := s.dropWhile qMC
def kC (b : UInt8) : Bool := qG b || b == 45 || b == 43 || b == 46 || b == 101 || b == 69
def tk (w : List UInt8) (st : RS) : Bool × RS :=
 if w.isPrefixOf (yQ st.left) then (true, { st with left := (yQ st.left).drop w.length }) else (false, { st with left := yQ st.left })
def xG : List UInt8 → Nat
 | [] => 0
 | b :: t => if b = 34 then 1 else if b = 92 then (match t with
  | [] => 1
  | _ :: u => 2 + xG u) else 1 + xG t
def qDF (s : List UInt8) : Nat := if s = [] then 0 else 1 + xG (s.drop 1)
def qAG (l : List UInt8) (st : RS) (u : List UInt8 × Nat × Int) : RS × List UInt8 :=
 if u.2.2 = 0 then ({ st with left := l.drop u.2.1 }, u.1) else if u.2.2 = 3 then ({ st with left := l.drop (qDF l), big := true }, u.1) else ({ st with left := l.drop u.2.1, bad := true }, u.1)
def qT (st : RS) : RS × List UInt8 := qAG (yQ st.left) st (zK (yQ st.left))
def kJ (st : RS) : RS × Val :=
 ({ st with left := st.left.dropWhile kC, big := st.big || decide ((wC (st.left.takeWhile kC)).2 = 3), bad := st.bad || decide ((wC (st.left.takeWhile kC)).2 = 4) }, .mk 4 0 (wC (st.left.takeWhile kC)).1 [] [] [] 0)
def vC (c : UInt8) (many : Nat) (st : RS) : Bool × RS :=
 let st1 : RS := { st with big := st.big || decide (200 < many) }
 if st1.bad = true then (true, st1) else
 let a := tk [c] st1
 if a.1 = true then (true, a.2) else let b := tk [44] a.2
  (false, { b.2 with bad := !b.1 })
def xR (ks : List (List UInt8)) (vs : List Val) (key : List UInt8) (v : Val) : List (List UInt8) × List Val := if key ∈ ks then (ks, vs.set (ks.idxOf key) v) else (ks ++ [key], vs ++ [v])
def wR (st : RS) : RS := if st.bad = true then st else { (tk [58] st).2 with bad := !(tk [58] st).1 }
def uD : List UInt8 := [110, 117, 108, 108]
def uC : List UInt8 := [116, 114, 117, 101]
def jO : List UInt8 := [102, 97, 108, 115, 101]
def zM (st : RS) (d : Nat) : RS := ⟨yQ st.left, st.nodes + 1, st.bad, st.deep || decide (12 < d), st.big || decide (400 < st.nodes + 1)⟩
def xA (st : RS) : RS × Val :=
 if uD.isPrefixOf st.left then (zZ st 4, .mk 1 0 dc0 [] [] [] 0)
 else if uC.isPrefixOf st.left then (zZ st 4, .mk 3 0 dc0 [] [] [] 0)
 else if jO.isPrefixOf st.left then (zZ st 5, .mk 2 0 dc0 [] [] [] 0)
 else if ([34] : List UInt8).isPrefixOf st.left then ((qT st).1, .mk 5 0 dc0 (qT st).2 [] [] 0)
 else if st.left ≠ [] ∧ (qM st.left 0 = 45 ∨ kG (qM st.left 0) = true) then kJ st
 else ({ st with bad := true }, yJ)
mutual
def yM : Nat → RS → Nat → RS × Val
 | 0, st, _ => ({ st with bad := true }, yJ)
 | n + 1, st, d =>
  if ([91] : List UInt8).isPrefixOf (zM st d).left then
   (let a := tk [93] (zZ (zM st d) 1)
    let r := if a.1 = true then (a.2, []) else uZ n a.2 (d + 1) 1 []
    (r.1, .mk 6 0 dc0 [] [] r.2 0))
  else if ([123] : List UInt8).isPrefixOf (zM st d).left then
   (let a := tk [125] (zZ (zM st d) 1)
    let r := if a.1 = true then (a.2, [], []) else uY n a.2 (d + 1) 1 [] []
    (r.1, .mk 7 0 dc0 [] r.2.1 r.2.2 0))
  else xA (zM st d)
def uZ : Nat → RS → Nat → Nat → List Val → RS × List Val
 | 0, st, _, _, vs => ({ st with bad := true }, vs)
 | n + 1, st, d, many, vs =>
  if st.bad = true then (st, vs) else
  let a := yM n st d
  let b := vC 93 many a.1
  if b.1 = true then (b.2, vs ++ [a.2]) else uZ n b.2 d (many + 1) (vs ++ [a.2])
def uY : Nat → RS → Nat → Nat → List (List UInt8) → List Val → RS × List (List UInt8) × List Val
 | 0, st, _, _, ks, vs => ({ st with bad := true }, ks, vs)
 | n + 1, st, d, many, ks, vs =>
  if st.bad = true then (st, ks, vs) else
  let q := qT st
  let c := wR q.1
  let a := if c.bad = true then (c, ks, vs) else let v := yM n c d
   (v.1, xR ks vs q.2 v.2)
  let b := vC 125 many a.1
  if b.1 = true then (b.2, a.2) else uY n b.2 d (many + 1) a.2.1 a.2.2
end
def qLK (s : List UInt8) : Val × Int × Int :=
 let r := yM (2 * s.length + 2) ⟨s, 0, false, false, false⟩ 1
 if r.1.bad = true then (yJ, 0, 10) else if r.1.deep = true then (yJ, 0, 11) else if r.1.big = true then (yJ, 0, 3) else (r.2, (s.length : Int) - r.1.left.length, 0)
theorem qGF (s : List UInt8) : (yQ s).length ≤ s.length := (List.dropWhile_sublist _).length_le
theorem qIV (w : List UInt8) (st : RS) : (tk w st).2.left.length ≤ st.left.length ∧ ((tk w st).1 = true → (tk w st).2.left.length + w.length ≤ st.left.length) := by
 have h := qGF st.left
 unfold tk
 split
 ·rename_i hp
  have := (List.isPrefixOf_iff_prefix.1 hp).length_le
  simp only [List.length_drop]
  exact ⟨by omega, fun _ => by omega⟩
 ·exact ⟨h, fun h => by cases h⟩
@[simp] theorem tk_bad (w : List UInt8) (st : RS) : (tk w st).2.bad = st.bad := by unfold tk; split <;> rfl
@[simp] theorem qTJ (w : List UInt8) (st : RS) : (tk w st).2.nodes = st.nodes := by unfold tk; split <;> rfl
@[simp] theorem tk_deep (w : List UInt8) (st : RS) : (tk w st).2.deep = st.deep := by unfold tk; split <;> rfl
@[simp] theorem tk_big (w : List UInt8) (st : RS) : (tk w st).2.big = st.big := by unfold tk; split <;> rfl
theorem qHZ (st : RS) : (qT st).1.left.length ≤ st.left.length := by
 have h := qGF st.left
 unfold qT qAG
 split
 ·simp only [List.length_drop]; omega
 ·split <;> (simp only [List.length_drop]; omega)
theorem qRA (c : UInt8) (many : Nat) (st : RS) : (vC c many st).2.left.length ≤ st.left.length := by
 unfold vC
 simp only
 split
 ·exact Nat.le_refl _
 ·split
  ·exact (qIV _ _).1
  ·exact Nat.le_trans (qIV _ _).1 (qIV _ _).1
theorem qVU (st : RS) : (wR st).left.length ≤ st.left.length := by
 unfold wR; split
 ·exact Nat.le_refl _
 ·exact (qIV _ _).1
theorem qVJ (st : RS) (d : Nat) : (zM st d).left.length ≤ st.left.length := qGF _
theorem qRY (p : UInt8 → Bool) (l : List UInt8) : (l.dropWhile p).length ≤ l.length := (List.dropWhile_sublist _).length_le
theorem qKI : ∀ (f : Nat) (s : List UInt8) (k : Nat) (out : List UInt8), (xQ f s k out).2.2 = 0 → k + 1 ≤ (xQ f s k out).2.1
 | 0, s, k, out, h => by simp [xQ] at h
 | f + 1, s, k, out, h => by
  simp only [xQ] at h ⊢
  split at h
  ·simp at h
  ·rename_i h1
   rw [if_neg h1]
   split at h
   ·rename_i h2
    rw [if_pos h2]
    split at h
    ·simp at h
    ·rename_i h3; rw [if_neg h3]; exact Nat.le_refl _
   ·rename_i h2
    rw [if_neg h2]
    split at h
    ·simp at h
    ·rename_i h3
     rw [if_neg h3]
     split at h
     ·rename_i h4
      rw [if_pos h4]
      cases he : escL s with
      | none => rw [he] at h; simp at h
      | some cn =>
       obtain ⟨c, n⟩ := cn
       rw [he] at h
       simp only at h ⊢
       have := qKI f _ _ _ h
       omega
     ·rename_i h4
      rw [if_neg h4]
      have := qKI f _ _ _ h
      omega
theorem quoted_lt {st : RS} (h : ([34] : List UInt8).isPrefixOf (yQ st.left) = true) : (qT st).1.bad = false → (qT st).1.left.length < st.left.length := by
 have h1 := qGF st.left
 obtain ⟨t, ht⟩ := List.isPrefixOf_iff_prefix.1 h
 unfold qT qAG
 generalize yQ st.left = l at *
 subst ht
 have hu : zK ([34] ++ t) = xQ (t.length + 1) t 1 [] := by
  unfold zK
  simp
 rw [hu]
 split
 ·rename_i h0
  intro _
  have := qKI _ _ _ _ h0
  simp only [List.length_drop]
  simp at h1 ⊢; omega
 ·split
  ·intro _
   simp only [List.length_drop, qDF]
   simp at h1 ⊢; omega
  ·intro hb; simp at hb
theorem parse_nil : (wC []).2 = 4 := by decide +kernel
theorem number_lt {st : RS} (h : (kJ st).1.bad = false) : (kJ st).1.left.length < st.left.length := by
 unfold kJ at h ⊢
 simp only [Bool.or_eq_false_iff, decide_eq_false_iff_not] at h
 have hs := List.takeWhile_append_dropWhile (p := kC) (l := st.left)
 generalize hA : st.left.takeWhile kC = A at *
 simp only
 have hl := congrArg List.length hs
 rw [List.length_append] at hl
 have : A ≠ [] := by rintro rfl; exact h.2 parse_nil
 have := List.length_pos_iff.2 this
 omega
theorem uH (s : List UInt8) : yQ (yQ s) = yQ s := by
 unfold yQ
 induction s with
 | nil => rfl
 | cons b s ih =>
  rw [List.dropWhile_cons]
  split
  ·exact ih
  ·rename_i h; rw [List.dropWhile_cons, if_neg h]
theorem wK {w l : List UInt8} (h : w.isPrefixOf l = true) : w.length ≤ l.length := (List.isPrefixOf_iff_prefix.1 h).length_le
theorem atom_lt (st : RS) (ht : yQ st.left = st.left) : (xA st).1.left.length ≤ st.left.length ∧ ((xA st).1.bad = false → (xA st).1.left.length < st.left.length) := by
 unfold xA
 split
 ·rename_i h; have := wK h; simp [uD, zZ] at this ⊢; omega
 ·split
  ·rename_i h; have := wK h; simp [uC, zZ] at this ⊢; omega
  ·split
   ·rename_i h; have := wK h; simp [jO, zZ] at this ⊢; omega
   ·split
    ·rename_i h; exact ⟨qHZ st, quoted_lt (by rw [ht]; exact h)⟩
    ·split
     ·exact ⟨qRY _ _, number_lt⟩
     ·exact ⟨Nat.le_refl _, fun h => by simp at h⟩
theorem lens : ∀ n : Nat, (∀ st d, (yM n st d).1.left.length ≤ st.left.length ∧ ((yM n st d).1.bad = false → (yM n st d).1.left.length < st.left.length)) ∧
  (∀ st d many vs, (uZ n st d many vs).1.left.length ≤ st.left.length) ∧ (∀ st d many ks vs, (uY n st d many ks vs).1.left.length ≤ st.left.length)
 | 0 => ⟨fun st d => ⟨by simp [yM], fun h => by simp [yM] at h⟩, fun st d many vs => by simp [uZ], fun st d many ks vs => by simp [uY]⟩
 | n + 1 => by
  obtain ⟨ih1, ih2, ih3⟩ := lens n
  refine ⟨fun st d => ?_, fun st d many vs => ?_, fun st d many ks vs => ?_⟩
  ·have he := qVJ st d
   have ht : yQ (zM st d).left = (zM st d).left := uH _
   simp only [yM]
   split
   ·rename_i h
    have h1 := wK h
    have h2 := qIV [93] (zZ (zM st d) 1)
    simp only [zZ, List.length_drop, List.length_cons, List.length_nil] at h1 h2
    split
    ·simp only [zZ]; exact ⟨by omega, fun _ => by omega⟩
    ·have h3 := ih2 (tk [93] (zZ (zM st d) 1)).2 (d + 1) 1 []
     simp only [zZ] at h3 ⊢
     exact ⟨by omega, fun _ => by omega⟩
   ·split
    ·rename_i h
     have h1 := wK h
     have h2 := qIV [125] (zZ (zM st d) 1)
     simp only [zZ, List.length_drop, List.length_cons, List.length_nil] at h1 h2
     split
     ·simp only [zZ]; exact ⟨by omega, fun _ => by omega⟩
     ·have h3 := ih3 (tk [125] (zZ (zM st d) 1)).2 (d + 1) 1 [] []
      simp only [zZ] at h3 ⊢
      exact ⟨by omega, fun _ => by omega⟩
    ·have h1 := atom_lt (zM st d) ht
     exact ⟨by omega, fun hb => by have := h1.2 hb; omega⟩
  ·simp only [uZ]
   split
   ·exact Nat.le_refl _
   ·have h1 := (ih1 st d).1
    have h2 := qRA 93 many (yM n st d).1
    split
    ·simp only; omega
    ·have := ih2 (vC 93 many (yM n st d).1).2 d (many + 1) (vs ++ [(yM n st d).2]); omega
  ·simp only [uY]
   split
   ·exact Nat.le_refl _
   ·have h1 := qHZ st
    have h2 := qVU (qT st).1
    have h3 := (ih1 (wR (qT st).1) d).1
    generalize hA : (if (wR (qT st).1).bad = true then (wR (qT st).1, ks, vs) else ((yM n (wR (qT st).1) d).1, xR ks vs (qT st).2 (yM n (wR (qT st).1) d).2)) = A
    have h4 : A.1.left.length ≤ st.left.length := by
     rw [← hA]; split
     ·simp only; omega
     ·simp only; omega
    have h5 := qRA 125 many A.1
    split
    ·simp only; omega
    ·have := ih3 (vC 125 many A.1).2 d (many + 1) A.2.1 A.2.2; omega
open Go Go.RowKit Go.Shelf Go.Maps Go.Sort
attribute [local go_sem] Oper.semAt_some
def qHO {α : Type} (f : Nat → α) (k : Nat) : List α := (List.range k).map f
theorem qNZ {α : Type} (f : Nat → α) (k : Nat) : qHO f (k + 1) = qHO f k ++ [f k] := by simp [qHO, List.range_succ]
theorem qTC {α : Type} (f : Nat → α) (k : Nat) : (qHO f k).length = k := by simp [qHO]
theorem qNY (zs : List (List UInt8)) {k : Nat} (hk : k ≤ zs.length) : qHO (fun j => zs[j]?.getD []) k = zs.take k := by
 apply List.ext_getElem
 ·simp [qHO, hk]
 ·intro i h1 h2
  have : i < zs.length := by simp [qHO] at h1; omega
  simp [qHO, this]
theorem upto_all (zs : List (List UInt8)) : qHO (fun j => zs[j]?.getD []) zs.length = zs := by rw [qNY zs (Nat.le_refl _), List.take_length]
set_option maxRecDepth 100000 in
set_option maxHeartbeats 2000000 in
theorem qWP (F : Fence) (n : Nat) (h7 : F.fn 209) (hro : F.round = none) (hn : 1 ≤ n) (l Bs n₀ b off len cap : Nat) (zs : List (List UInt8)) (hreach : len * 16 ≤ 140737488351232) (hb : b < n₀) (J Jx : List (List UInt8) → World → Prop)
  (hY : ∀ pre x W, J pre W → pre.length < len → YieldAt F (n - 1) Tryz.prog l #[encStr x] W fun e W' =>
   (e = .returned (.bool true) ∧ J (pre ++ [x]) W' ∧ Below n₀ W W') ∨ (e = .returned (.bool false) ∧ Jx (pre ++ [x]) W'))
  (W : World) (hBs : W.cell? ⟨Bs, 0, none⟩ = some (.slice (some ⟨b, off, none⟩) len cap)) (hc : ∀ j, j < len → W.cell? ⟨b, off + j, none⟩ = some (encStr (zs[j]?.getD []))) (h0 : J [] W) :
  CallsIn F n Tryz.prog 209 #[.func (.yield l) #[] #[], .pointer (some ⟨Bs, 0, none⟩)] W fun e W' => (∃ v, e = .returned v) ∧
   ((∃ ys, ys = qHO (fun j => zs[j]?.getD []) len ∧ J ys W') ∨ (∃ pre, (∃ k, k ≤ len ∧ pre = qHO (fun j => zs[j]?.getD []) k) ∧ Jx pre W')) := by
 refine callsIn_of_wp Tryz.func209 rfl h7 ?_ hro
 simp only [Tryz.ntmps209, List.size_toArray, List.length_cons, List.length_nil, Nat.reduceAdd, Nat.reduceSub, Array.replicate_succ, Array.replicate_zero, List.push_toArray, List.append_toArray, List.nil_append, List.cons_append]
 gi_wp2
 gi_loopw [7] (fun i wr => ∃ k : Nat, k ≤ len ∧ i = .int .i64 k ∧ J (qHO (fun j => zs[j]?.getD []) k) wr ∧ Below n₀ W wr)
  (fun i _ => len - (intOf i).toNat)
 case atStart => exact ⟨0, Nat.zero_le _, rfl, h0, Below.refl _ _⟩
 case round =>
  obtain ⟨k, hk, rfl, hJs, hnx⟩ := hrel
  have hcx : k < len → wr.cell? ⟨b, off + k, none⟩ = some (encStr (zs[k]?.getD [])) := fun h => (hnx.cell (p := ⟨b, off + k, none⟩) hb).trans (hc k h)
  by_cases hlt : k < len
  ·obtain ⟨fn, tmps, assign, body, hy, hR⟩ := hY _ (zs[k]?.getD []) wr hJs (by rw [qTC]; exact hlt)
   have hcx' := hcx hlt
   gi_wp2
   refine hR.mono ?_
   rintro e W3 (⟨rfl, hJ3, hk3⟩ | ⟨rfl, hJx3⟩)
   ·gi_wp2
    go_roundw
    case rel => exact ⟨k + 1, by omega, by simp, by rw [qNZ]; exact hJ3, hnx.trans hk3⟩
    case measure => simp [intOf]; omega
   ·gi_wp2
    refine bodyPost_ret (results_none rfl _ _ _) rfl ?_
    exact ⟨⟨_, rfl⟩, .inr ⟨_, ⟨k + 1, by omega, (qNZ _ _).symm⟩, hJx3⟩⟩
  ·obtain rfl : k = len := by omega
   gi_wp2
   go_end0
   exact ⟨⟨_, rfl⟩, .inl ⟨_, rfl, hJs⟩⟩
def qWH (n₀ : Nat) (W : World) (sv : Value) (zs : List (List UInt8)) : Prop :=
 (zs = [] ∧ ∃ a c, sv = .slice a 0 c) ∨ ∃ b off cap, sv = .slice (some ⟨b, off, none⟩) zs.length cap ∧ b < n₀ ∧ ∀ j, j < zs.length → W.cell? ⟨b, off + j, none⟩ = some (encStr (zs[j]?.getD []))
theorem qWH.below {n₀ : Nat} {A B : World} (h : Below n₀ A B) {sv : Value} {zs : List (List UInt8)} : qWH n₀ A sv zs → qWH n₀ B sv zs
 | .inl e => .inl e
 | .inr ⟨b, off, cap, e, hb, hc⟩ => .inr ⟨b, off, cap, e, hb, fun j hj => (h.cell (p := ⟨b, off + j, none⟩) hb).trans (hc j hj)⟩
set_option maxRecDepth 100000 in
set_option maxHeartbeats 1000000 in
theorem qKC (F : Fence) (n : Nat) (h7 : F.fn 209) (hro : F.round = none) (l Bs : Nat) (a : Option Addr) (c : Nat) (J : List (List UInt8) → World → Prop) (W : World) (hBs : W.cell? ⟨Bs, 0, none⟩ = some (.slice a 0 c)) (h0 : J [] W) :
  CallsIn F n Tryz.prog 209 #[.func (.yield l) #[] #[], .pointer (some ⟨Bs, 0, none⟩)] W fun e W' => (∃ v, e = .returned v) ∧ J [] W' := by
 refine callsIn_of_wp Tryz.func209 rfl h7 ?_ hro
 simp only [Tryz.ntmps209, List.size_toArray, List.length_cons, List.length_nil, Nat.reduceAdd, Nat.reduceSub, Array.replicate_succ, Array.replicate_zero, List.push_toArray, List.append_toArray, List.nil_append, List.cons_append]
 gi_wp2
 gi_loopw [7] (fun i wr => i = .int .i64 0 ∧ J [] wr) (fun _ _ => 0)
 case atStart => exact ⟨rfl, h0⟩
 case round =>
  obtain ⟨rfl, hJs⟩ := hrel
  gi_wp2
  go_end0
  exact ⟨⟨_, rfl⟩, hJs⟩
theorem qQR (F : Fence) (n : Nat) (h7 : F.fn 209) (hro : F.round = none) (hn : 1 ≤ n) (Bs n₀ : Nat) (sv : Value) (zs : List (List UInt8)) (hreach : zs.length * 16 ≤ 140737488351232) (w : World) (hBs : Bs < w.heap.size) (hn₀ : n₀ ≤ w.heap.size)
  (hc : w.cell? ⟨Bs, 0, none⟩ = some sv) (hI : qWH n₀ w sv zs) :
  SeqStopsK F n Tryz.prog 209 #[.pointer (some ⟨Bs, 0, none⟩)] (fun x : List UInt8 => #[encStr x]) (Below n₀) (fun ys => ys = zs) (fun pre => pre <+: zs) zs.length w := fun l J Jx W hW _ _ hY h0 => by
 have hc' := (hW.cell (p := ⟨Bs, 0, none⟩) hBs).trans hc
 rcases hI.below (hW.mono hn₀) with ⟨rfl, a, c, rfl⟩ | ⟨b, off, cap, rfl, hb, hcs⟩
 ·exact (qKC F n h7 hro l Bs a c J W hc' h0).mono fun e W' ⟨he, hj⟩ => ⟨he, .inl ⟨_, rfl, hj⟩⟩
 ·refine (qWP F n h7 hro hn l Bs n₀ b off zs.length cap zs hreach hb J Jx hY W hc' hcs h0).mono ?_
  rintro e W' ⟨he, ⟨ys, rfl, hj⟩ | ⟨pre, ⟨k, hk, rfl⟩, hj⟩⟩
  ·exact ⟨he, .inl ⟨_, upto_all zs, hj⟩⟩
  ·exact ⟨he, .inr ⟨_, by rw [qNY zs hk]; exact List.take_prefix _ _, hj⟩⟩
theorem strInfo : (Tryz.prog.info? 9).map (fun i => (i.zero, i.size, i.bytes)) = some (some (.string .empty), 1, 16) := by kernel_rfl
set_option maxRecDepth 100000 in
set_option maxHeartbeats 2000000 in
theorem qSM (F : Fence) (n : Nat) (h3 : F.fn 230) (h5 : F.fn 209) (hro : F.round = none) (hn : 3 ≤ n) (Bs : Nat) (sv : Value) (zs : List (List UInt8)) (hlen : zs.length ≤ maxLen) (hbytes : zs.length * 16 ≤ 140737488351232) (w : World)
  (hBs : Bs < w.heap.size) (hc0 : w.cell? ⟨Bs, 0, none⟩ = some sv) (hI : qWH w.heap.size w sv zs) :
  CallsIn F n Tryz.prog 230 #[.slice none 0 0, .func (.func 209) #[] #[.pointer (some ⟨Bs, 0, none⟩)]] w fun e W' => ∃ v, e = .returned v ∧ W'.ownsRow w.heap.size 9 1 v zs.length (zs.map encStr) ∧ Below w.heap.size w W' := by
 have h1 : 1 ≤ n := by omega
 obtain ⟨i0, hi, hz0, hz1, hz2⟩ := info_parts strInfo
 refine callsIn_of_wp_marks Tryz.func230 rfl h3 ?_ hro
 simp only [Tryz.ntmps230, List.size_toArray, List.length_cons, List.length_nil, Nat.reduceAdd, Nat.reduceSub, Array.replicate_succ, Array.replicate_zero, List.push_toArray, List.append_toArray, List.nil_append, List.cons_append]
 gi_wp2
 have bO := Boxed.new w 27 (.slice none 0 0)
 have hB0 : Below w.heap.size w (w.alloc (.cells #[.slice none 0 0] 27)) := (Below.refl _ w).alloc (Nat.le_refl _) _
 refine wpIn_rangeFunc_ownG hro h1 (gf := 209) (lb := #[.pointer (some ⟨Bs, 0, none⟩)]) rfl h5 (enters_of Tryz.func209 (by kernel_rfl) rfl)
  (qQR F (n - 1) h5 hro (by omega) Bs w.heap.size sv zs hbytes _ (by simp; omega) (by simp) ((hB0.cell (p := ⟨Bs, 0, none⟩) hBs).trans hc0) (hI.below hB0)) belowK_t (belowK_b (by simp)) (Below.refl _ _) (fun _ => rfl)
  (fun pre W => (∃ v, Boxed W w.heap.size 27 v ∧ W.ownsRow w.heap.size 9 1 v pre.length (pre.map encStr) ∧ True) ∧ Below w.heap.size w W)
  (fun _ _ _ => False)
  (OwnFrom.and (Own.from (holdsRow_own w.heap.size w.heap.size 27 9 1 (fun pre : List (List UInt8) => pre.length) (fun pre => pre.map encStr) (fun _ _ => True)) _) (ownFrom_below (Nat.le_refl _) (by simp)))
  (fun _ _ _ _ _ hs _ _ => hs)
  ⟨⟨_, bO, World.ownsRow_nil _ _ _ _, trivial⟩, hB0⟩
  (fun x => { tmps := #[.slice none 0 0, .func (.func 209) #[] #[.pointer (some ⟨Bs, 0, none⟩)], .pointer (some ⟨w.heap.size, 0, none⟩), undef, .slice none 0 0, encStr x, .func (.func 209) #[] #[.pointer (some ⟨Bs, 0, none⟩)], encStr x, undef, undef, undef, undef, undef], defers := [] }) ?assign ?body ?done ?stop
 case assign =>
  intro l x W K hK
  gi_wp2
  exact hK
 case body =>
  rintro l pre x W ⟨⟨v, hv, hrow, _⟩, hB⟩ hlt
  have hc := hv.cell
  gi_wp2_with (gi_at_builtin; refine wpListIn_append_own _ rfl _ _ 27 rfl w.heap.size 9 i0 (.string .empty) 1 16 Tryz.underlying27 hi hz0 hz1 hz2 rfl (by decide) _ _ _ rfl (hrow.alloc _) ⟨W.heap.size, 0, none⟩ 1 1 [encStr x] rfl rfl (cell_one_new _ _ _) (by simp [Value.oneCell']) (by omega) (by omega) (by have := hB.size; simp; omega) ?_; intro v' w1 hown' hgrow _; obtain ⟨g', cap', rfl⟩ := ownsRow_succ hown'; obtain ⟨hv1, hv2, hr2, hk2, hb2⟩ := hv.appended (by decide) hrow hB.size (Nat.le_refl _) hown' hgrow; have hc1 := hv1.cell; have hf1 := hv1.frozen)
  exact ⟨hk2.from _, hb2, ⟨_, hv2, by simpa using hr2, trivial⟩, hB.trans hb2⟩
 case done =>
  rintro D ys W hD rfl ⟨⟨v, hv, hrow, _⟩, hB⟩ hK
  have hc := hv.cell
  gi_wp2
  refine ⟨by simp, .inl ⟨_, _, rfl, run_takeDeferred hK, ?_⟩⟩
  exact ⟨_, results_tmp rfl _ _ _, v, rfl, ownsRow_putObj hrow _ hK rfl, hB.trans (belowK_b (w := w) (Nat.le_refl _) W D _ _ (by simp at hD; omega) hK rfl rfl)⟩
 case stop =>
  rintro D c pre W _ _ h _
  exact h.elim
set_option maxRecDepth 100000 in
set_option maxHeartbeats 2000000 in
theorem qYO (F : Fence) (n : Nat) (h2 : F.fn 207) (h3 : F.fn 230) (h5 : F.fn 209) (hro : F.round = none) (hn : 4 ≤ n) (Bs : Nat) (sv : Value) (zs : List (List UInt8)) (hlen : zs.length ≤ maxLen) (hbytes : zs.length * 16 ≤ 140737488351232) (w : World)
  (hBs : Bs < w.heap.size) (hc0 : w.cell? ⟨Bs, 0, none⟩ = some sv) (hI : qWH w.heap.size w sv zs) :
  CallsIn F n Tryz.prog 207 #[.func (.func 209) #[] #[.pointer (some ⟨Bs, 0, none⟩)]] w fun e W' => ∃ v, e = .returned v ∧ W'.ownsRow w.heap.size 9 1 v zs.length (zs.map encStr) ∧ Below w.heap.size w W' := by
 have h1 : 1 ≤ n := by omega
 refine callsIn_of_wp Tryz.func207 rfl h2 ?_ hro
 simp only [Tryz.ntmps207, List.size_toArray, List.length_cons, List.length_nil, Nat.reduceAdd, Nat.reduceSub, Array.replicate_succ, Array.replicate_zero, List.push_toArray, List.append_toArray, List.nil_append, List.cons_append]
 gi_wp2_with (gi_at_call 230; refine (qSM F (n - 1) h3 h5 hro (by omega) Bs sv zs hlen hbytes _ hBs hc0 hI).mono ?_; rintro e W ⟨v, rfl, hrow, hb⟩)
 go_ret
 exact ⟨v, rfl, hrow, hb⟩
end Go.Proofs.YtdojfdaglbphlaaGreatDoor
namespace Go.Proofs
open Go.Shelf
def Tryz.lays106_ren : Go.Shelf.Ren := ⟨fun | 106 => 104 | 213 => 160 | 265 => 206 | n => n, fun | 9 => 9 | 3 => 3 | n => n, fun | n => n⟩
theorem Tryz.lays106 : Go.Proofs.Lays.n106 Tryz.prog Tryz.lays106_ren := {
 mixed := by kernel_rfl
 f106 := Tryz.func104.trans (congrArg some (by kernel_rfl))
 f213 := Tryz.func160.trans (congrArg some (by kernel_rfl))
 f265 := Tryz.func206.trans (congrArg some (by kernel_rfl))
 t3 := Tryz.underlying3
 a3 := Tryz.isAgg3
 z3 := Tryz.sizeOf3
 v3 := Tryz.zeroValue3
 t9 := Tryz.underlying9
 a9 := Tryz.isAgg9
 z9 := Tryz.sizeOf9
 v9 := Tryz.zeroValue9 }
def Tryz.lays105_ren : Go.Shelf.Ren := ⟨fun | 105 => 99 | 212 => 152 | 99 => 153 | 165 => 154 | 166 => 155 | 170 => 156 | 169 => 157 | 263 => 201 | 264 => 202 | 206 => 203 | 240 => 204 | 241 => 205 | 276 => 228 | 277 => 229 | n => n, fun | 9 => 9 | 3 => 3 | 4 => 4 | 20 => 20 | 0 => 0 | 46 => 158 | 109 => 159 | 5 => 5 | 72 => 163 | 76 => 167 | 51 => 208 | 146 => 209 | 53 => 24 | 148 => 211 | 70 => 161 | 37 => 107 | 75 => 166 | 127 => 213 | 164 => 232 | 80 => 101 | n => n, fun | n => n⟩
theorem Tryz.lays105 : Go.Proofs.Lays.n105 Tryz.prog Tryz.lays105_ren := {
 mixed := by kernel_rfl
 f99 := Tryz.func153.trans (congrArg some (by kernel_rfl))
 f105 := Tryz.func99.trans (congrArg some (by kernel_rfl))
 f165 := Tryz.func154.trans (congrArg some (by kernel_rfl))
 f166 := Tryz.func155.trans (congrArg some (by kernel_rfl))
 f169 := Tryz.func157.trans (congrArg some (by kernel_rfl))
 f170 := Tryz.func156.trans (congrArg some (by kernel_rfl))
 f206 := Tryz.func203.trans (congrArg some (by kernel_rfl))
 f212 := Tryz.func152.trans (congrArg some (by kernel_rfl))
 f240 := Tryz.func204.trans (congrArg some (by kernel_rfl))
 f241 := Tryz.func205.trans (congrArg some (by kernel_rfl))
 f263 := Tryz.func201.trans (congrArg some (by kernel_rfl))
 f264 := Tryz.func202.trans (congrArg some (by kernel_rfl))
 f276 := Tryz.func228.trans (congrArg some (by kernel_rfl))
 f277 := Tryz.func229.trans (congrArg some (by kernel_rfl))
 t0 := Tryz.underlying0
 a0 := Tryz.isAgg0
 z0 := Tryz.sizeOf0
 v0 := Tryz.zeroValue0
 t3 := Tryz.underlying3
 a3 := Tryz.isAgg3
 z3 := Tryz.sizeOf3
 v3 := Tryz.zeroValue3
 t4 := Tryz.underlying4
 a4 := Tryz.isAgg4
 z4 := Tryz.sizeOf4
 v4 := Tryz.zeroValue4
 t5 := Tryz.underlying5
 a5 := Tryz.isAgg5
 z5 := Tryz.sizeOf5
 v5 := Tryz.zeroValue5
 t9 := Tryz.underlying9
 a9 := Tryz.isAgg9
 z9 := Tryz.sizeOf9
 v9 := Tryz.zeroValue9
 t20 := Tryz.underlying20
 a20 := Tryz.isAgg20
 z20 := Tryz.sizeOf20
 v20 := Tryz.zeroValue20
 t37 := Tryz.underlying107
 a37 := Tryz.isAgg107
 z37 := Tryz.sizeOf107
 v37 := Tryz.zeroValue107
 t46 := Tryz.underlying158
 a46 := Tryz.isAgg158
 z46 := Tryz.sizeOf158
 v46 := Tryz.zeroValue158
 t51 := Tryz.underlying208
 a51 := Tryz.isAgg208
 z51 := Tryz.sizeOf208
 v51 := Tryz.zeroValue208
 t53 := Tryz.underlying24
 a53 := Tryz.isAgg24
 z53 := Tryz.sizeOf24
 v53 := Tryz.zeroValue24
 t70 := Tryz.underlying161
 a70 := Tryz.isAgg161
 z70 := Tryz.sizeOf161
 v70 := Tryz.zeroValue161
 t72 := Tryz.underlying163
 a72 := Tryz.isAgg163
 z72 := Tryz.sizeOf163
 v72 := Tryz.zeroValue163
 t75 := Tryz.underlying166
 a75 := Tryz.isAgg166
 z75 := Tryz.sizeOf166
 v75 := Tryz.zeroValue166
 t76 := Tryz.underlying167
 a76 := Tryz.isAgg167
 z76 := Tryz.sizeOf167
 v76 := Tryz.zeroValue167
 t109 := Tryz.underlying159
 a109 := Tryz.isAgg159
 z109 := Tryz.sizeOf159
 v109 := Tryz.zeroValue159
 t127 := Tryz.underlying213
 a127 := Tryz.isAgg213
 z127 := Tryz.sizeOf213
 v127 := Tryz.zeroValue213
 t146 := Tryz.underlying209
 a146 := Tryz.isAgg209
 z146 := Tryz.sizeOf209
 v146 := Tryz.zeroValue209
 t148 := Tryz.underlying211
 a148 := Tryz.isAgg211
 z148 := Tryz.sizeOf211
 v148 := Tryz.zeroValue211
 t164 := Tryz.underlying232
 a164 := Tryz.isAgg232
 z164 := Tryz.sizeOf232
 v164 := Tryz.zeroValue232 }
def Tryz.lays190_ren : Go.Shelf.Ren := ⟨fun | 190 => 208 | 125 => 232 | 258 => 231 | 128 => 258 | 129 => 241 | 302 => 249 | 303 => 250 | 304 => 251 | 305 => 252 | 306 => 253 | 307 => 254 | 308 => 255 | 309 => 256 | 310 => 257 | 333 => 269 | 329 => 270 | 330 => 271 | 334 => 272 | 335 => 273 | 336 => 210 | 344 => 277 | n => n, fun | 31 => 27 | 9 => 9 | 3 => 3 | 46 => 158 | 0 => 0 | 51 => 208 | 53 => 24 | 4 => 4 | 183 => 254 | 182 => 253 | 131 => 206 | 5 => 5 | 218 => 267 | 222 => 271 | 228 => 276 | 229 => 139 | n => n, fun | n => n⟩
theorem Tryz.lays190 : Go.Proofs.Lays.n190 Tryz.prog Tryz.lays190_ren := {
 mixed := by kernel_rfl
 f125 := Tryz.func232.trans (congrArg some (by kernel_rfl))
 f128 := Tryz.func258.trans (congrArg some (by kernel_rfl))
 f129 := Tryz.func241.trans (congrArg some (by kernel_rfl))
 f190 := Tryz.func208.trans (congrArg some (by kernel_rfl))
 f258 := Tryz.func231.trans (congrArg some (by kernel_rfl))
 f302 := Tryz.func249.trans (congrArg some (by kernel_rfl))
 f303 := Tryz.func250.trans (congrArg some (by kernel_rfl))
 f304 := Tryz.func251.trans (congrArg some (by kernel_rfl))
 f305 := Tryz.func252.trans (congrArg some (by kernel_rfl))
 f306 := Tryz.func253.trans (congrArg some (by kernel_rfl))
 f307 := Tryz.func254.trans (congrArg some (by kernel_rfl))
 f308 := Tryz.func255.trans (congrArg some (by kernel_rfl))
 f309 := Tryz.func256.trans (congrArg some (by kernel_rfl))
 f310 := Tryz.func257.trans (congrArg some (by kernel_rfl))
 f329 := Tryz.func270.trans (congrArg some (by kernel_rfl))
 f330 := Tryz.func271.trans (congrArg some (by kernel_rfl))
 f333 := Tryz.func269.trans (congrArg some (by kernel_rfl))
 f334 := Tryz.func272.trans (congrArg some (by kernel_rfl))
 f335 := Tryz.func273.trans (congrArg some (by kernel_rfl))
 f336 := Tryz.func210.trans (congrArg some (by kernel_rfl))
 f344 := Tryz.func277.trans (congrArg some (by kernel_rfl))
 t0 := Tryz.underlying0
 a0 := Tryz.isAgg0
 z0 := Tryz.sizeOf0
 v0 := Tryz.zeroValue0
 t3 := Tryz.underlying3
 a3 := Tryz.isAgg3
 z3 := Tryz.sizeOf3
 v3 := Tryz.zeroValue3
 t4 := Tryz.underlying4
 a4 := Tryz.isAgg4
 z4 := Tryz.sizeOf4
 v4 := Tryz.zeroValue4
 t5 := Tryz.underlying5
 a5 := Tryz.isAgg5
 z5 := Tryz.sizeOf5
 v5 := Tryz.zeroValue5
 t9 := Tryz.underlying9
 a9 := Tryz.isAgg9
 z9 := Tryz.sizeOf9
 v9 := Tryz.zeroValue9
 t31 := Tryz.underlying27
 a31 := Tryz.isAgg27
 z31 := Tryz.sizeOf27
 v31 := Tryz.zeroValue27
 t46 := Tryz.underlying158
 a46 := Tryz.isAgg158
 z46 := Tryz.sizeOf158
 v46 := Tryz.zeroValue158
 t51 := Tryz.underlying208
 a51 := Tryz.isAgg208
 z51 := Tryz.sizeOf208
 v51 := Tryz.zeroValue208
 t53 := Tryz.underlying24
 a53 := Tryz.isAgg24
 z53 := Tryz.sizeOf24
 v53 := Tryz.zeroValue24
 t131 := Tryz.underlying206
 a131 := Tryz.isAgg206
 z131 := Tryz.sizeOf206
 v131 := Tryz.zeroValue206
 t182 := Tryz.underlying253
 a182 := Tryz.isAgg253
 z182 := Tryz.sizeOf253
 v182 := Tryz.zeroValue253
 t183 := Tryz.underlying254
 a183 := Tryz.isAgg254
 z183 := Tryz.sizeOf254
 v183 := Tryz.zeroValue254
 t218 := Tryz.underlying267
 a218 := Tryz.isAgg267
 z218 := Tryz.sizeOf267
 v218 := Tryz.zeroValue267
 t222 := Tryz.underlying271
 a222 := Tryz.isAgg271
 z222 := Tryz.sizeOf271
 v222 := Tryz.zeroValue271
 t228 := Tryz.underlying276
 a228 := Tryz.isAgg276
 z228 := Tryz.sizeOf276
 v228 := Tryz.zeroValue276
 t229 := Tryz.underlying139
 a229 := Tryz.isAgg139
 z229 := Tryz.sizeOf139
 v229 := Tryz.zeroValue139 }
def Tryz.lays169_ren : Go.Shelf.Ren := ⟨fun | 169 => 157 | n => n, fun | 70 => 161 | 9 => 9 | 0 => 0 | 72 => 163 | 37 => 107 | 127 => 213 | 3 => 3 | 5 => 5 | n => n, fun | n => n⟩
theorem Tryz.lays169 : Go.Proofs.Lays.n169 Tryz.prog Tryz.lays169_ren := {
 mixed := by kernel_rfl
 f169 := Tryz.func157.trans (congrArg some (by kernel_rfl))
 t0 := Tryz.underlying0
 a0 := Tryz.isAgg0
 z0 := Tryz.sizeOf0
 v0 := Tryz.zeroValue0
 t3 := Tryz.underlying3
 a3 := Tryz.isAgg3
 z3 := Tryz.sizeOf3
 v3 := Tryz.zeroValue3
 t9 := Tryz.underlying9
 a9 := Tryz.isAgg9
 z9 := Tryz.sizeOf9
 v9 := Tryz.zeroValue9
 t37 := Tryz.underlying107
 a37 := Tryz.isAgg107
 z37 := Tryz.sizeOf107
 v37 := Tryz.zeroValue107
 t70 := Tryz.underlying161
 a70 := Tryz.isAgg161
 z70 := Tryz.sizeOf161
 v70 := Tryz.zeroValue161
 t72 := Tryz.underlying163
 a72 := Tryz.isAgg163
 z72 := Tryz.sizeOf163
 v72 := Tryz.zeroValue163
 t127 := Tryz.underlying213
 a127 := Tryz.isAgg213
 z127 := Tryz.sizeOf213
 v127 := Tryz.zeroValue213 }
end Go.Proofs
namespace Go.Proofs.YtdojfdaglbphlaaGreatDoor
open Sy Go
variable {G : qS}
theorem arg_str2 {M : qY} {vs : Array Value} {s t : List UInt8} (hsz : vs.size = 2) (h : ∀ (i : Nat) u d, vs[i]? = some u → [PD.str s, PD.str t][i]? = some d → Rd M u d) : ∃ a b : ByteArray, vs = #[.string a, .string b] ∧ a.data.toList = s ∧ b.data.toList = t := by
 obtain ⟨l⟩ := vs
 match l, hsz with
 | [u, v], _ =>
  have h1 := h 0 u (.str s) rfl rfl
  have h2 := h 1 v (.str t) rfl rfl
  cases h1 with
  | @str a _ ha _ =>
  cases h2 with
  | @str b _ hb _ => exact ⟨a, b, rfl, ha, hb⟩
theorem qYV {M : qY} {vs : Array Value} {s : List UInt8} {n : Int} (hsz : vs.size = 2) (h : ∀ (i : Nat) u d, vs[i]? = some u → [PD.str s, PD.int .i64 n][i]? = some d → Rd M u d) : ∃ a : ByteArray, vs = #[.string a, .int .i64 n] ∧ a.data.toList = s ∧ n ≤ 9223372036854775807 := by
 obtain ⟨l⟩ := vs
 match l, hsz with
 | [u, v], _ =>
  have h1 := h 0 u (.str s) rfl rfl
  have h2 := h 1 v (.int .i64 n) rfl rfl
  cases h1 with
  | @str a _ ha _ =>
  cases h2 with
  | int h3 h4 => exact ⟨a, rfl, ha, by rw [xK] at h4; exact h4⟩
theorem qYY (a b : List UInt8) : AFn Tryz.prog G 104 [.str a, .str b] (.int .i64 (Lib.compareBytes a b)) := by
 refine AFn.of_calls (vL Tryz.func104 (by kernel_rfl) rfl) fun M w vs hg hmem hsz hrd => ?_
 obtain ⟨x, y, rfl, rfl, rfl⟩ := arg_str2 hsz hrd
 refine (Any.strings_Compare Tryz.lays106 x y w).mono ?_
 rintro e w' ⟨rfl, rfl⟩
 have hb : -1 ≤ Lib.compareBytes x.data.toList y.data.toList ∧ Lib.compareBytes x.data.toList y.data.toList ≤ 1 := by
  generalize x.data.toList = l; generalize y.data.toList = m
  induction l generalizing m with
  | nil => cases m <;> simp [Lib.compareBytes]
  | cons a l ih =>
   cases m with
   | nil => simp [Lib.compareBytes]
   | cons b m =>
    simp only [Lib.compareBytes]
    split
    ·omega
    ·split
     ·omega
     ·exact ih m
 exact ⟨_, rfl, .int (by rw [vB]; simp only [kD]; omega) (by rw [xK]; simp only [kE]; omega), RowKit.Below.refl _ _⟩
theorem qNQ : Builder.Extra Tryz.prog Tryz.lays105_ren where
 sizeBuilder := by kernel_rfl
 liesBuilder := by kernel_rfl
 t5 := Tryz.underlying5
 a5 := Tryz.isAgg5
 z5 := Tryz.sizeOf5
 v5 := Tryz.zeroValue5
 infoByte := by kernel_rfl
 cellsByte := by kernel_rfl
 sizeByte := by kernel_rfl
 neB5 := by decide
theorem qBR (s : List UInt8) (n : Nat) (h : s.length * n ≤ 140737488355328) : AFn Tryz.prog G 99 [.str s, .int .i64 n] (.str (Lib.repeatL s n)) := by
 refine AFn.of_calls (vL Tryz.func99 (by kernel_rfl) rfl) fun M w vs hg hmem hsz hrd => ?_
 obtain ⟨x, rfl, rfl, hn⟩ := qYV hsz hrd
 refine (Any.strings_Repeat Tryz.lays105 qNQ x n w (by omega) (by rw [jF rfl]; exact h)).mono ?_
 rintro e w' ⟨rfl, hb⟩
 refine ⟨_, rfl, .str (by simp) ?_, hb⟩
 rw [Lib.repeatL_length, Nat.mul_comm]; simp only [maxLen]; omega
open Sy Go Go.RowKit Go.Shelf Go.Maps Go.Sort
attribute [local go_sem] Oper.semAt_some
set_option linter.unusedSimpArgs false
set_option linter.unusedVariables false
def wF (ks : List (List UInt8)) : List (List UInt8) := ks.mergeSort fun x y => decide (x ≤ y)
theorem qOL (ks : List (List UInt8)) : (wF ks).length = ks.length := List.length_mergeSort _
set_option maxRecDepth 100000 in
set_option maxHeartbeats 2000000 in
theorem qQW (Bs : Nat) (sv : Value) (zs : List (List UInt8)) (hlen : zs.length ≤ maxLen) (hbytes : zs.length * 16 ≤ 140737488351232) (w : World) (hBs : Bs < w.heap.size) (hc0 : w.cell? ⟨Bs, 0, none⟩ = some sv) (hI : qWH w.heap.size w sv zs) :
  Calls Tryz.prog 162 #[.func (.func 209) #[] #[.pointer (some ⟨Bs, 0, none⟩)]] w fun e W' => ∃ v, e = .returned v ∧ W'.ownsRow w.heap.size 9 1 v zs.length ((wF zs).map encStr) ∧ Below w.heap.size w W' := by
 refine (callsIn_wide (n := 6)).1 ?_
 have h1 : 1 ≤ 6 := by omega
 refine callsIn_of_wp Tryz.func162 rfl trivial ?_ rfl
 simp only [Tryz.ntmps162, List.size_toArray, List.length_cons, List.length_nil, Nat.reduceAdd, Nat.reduceSub, Array.replicate_succ, Array.replicate_zero, List.push_toArray, List.append_toArray, List.nil_append, List.cons_append]
 gi_wp2_with (refine ⟨trivial, ?_⟩; gi_at_call 207; refine (qYO Fence.wide 5 trivial trivial trivial rfl (by omega) Bs sv zs hlen hbytes _ hBs hc0 hI).mono ?_; rintro e W ⟨v, rfl, hrow, hb⟩)
 rcases hrow.2 with ⟨rfl, hz⟩ | ⟨gb, cap, cur, rfl, hbase, hgb, r1, r2, r3, r4⟩
 ·have hss : zs = [] := List.eq_nil_of_length_eq_zero hz
  subst hss
  gi_wp2_with (refine ⟨trivial, ?_⟩; gi_at_call 208; refine (callsIn_wide.2 (Any.slices_Sort_string_none Tryz.lays190 none 0 W)).mono ?_; rintro e w' ⟨rfl, rfl⟩)
  go_ret
  exact ⟨.slice none 0 0, rfl, by simpa [wF] using hrow, hb⟩
 ·have hH : Holds encStr W gb 0 zs.toArray := holds_of_block hgb (by simpa using r4)
  have hgl : gb < W.heap.size := (Array.getElem?_eq_some_iff.1 hgb).1
  have cS := Any.slices_Sort_string Tryz.lays190 gb 0 cap zs W hH hgl (by omega)
  gi_wp2_with (refine ⟨trivial, ?_⟩; gi_at_call 208; refine (callsIn_wide.2 cS).mono ?_; rintro e w' ⟨rfl, nn, os, rfl⟩)
  go_ret
  exact ⟨_, rfl, ownsRow_sorted (by simp) hbase hgb r1 r2 r3, hb.grown (grownBy_sorted _) hb.size (fun j hj => by cases hj; exact hbase)⟩
theorem encStr_eq {ba : ByteArray} {s : List UInt8} (h : ba.data.toList = s) : Value.string ba = encStr s := by
 subst h; rfl
theorem strs_of {M : qY} {w : World} {u : Value} {ks : List (List UInt8)} (hmem : ∀ b o v, M b o = some v → w.cell? ⟨b, o, none⟩ = some v) (h : Rd M u (.sl 1 (ks.map PD.str))) : qWH w.heap.size w u ks ∧ ks.length ≤ maxLen ∧ ∀ s ∈ ks, s.length ≤ maxLen := by
 cases h with
 | @sl a n c _ _ b o hn hnc hcm ha h5 h6 h7 =>
 rw [List.length_map] at hn
 by_cases hk : ks = []
 ·subst hk; simp at hn; subst hn; exact ⟨.inl ⟨rfl, a, c, rfl⟩, by simp, by simp⟩
 ·have hpos : 0 < ks.length := List.length_pos_iff.2 hk
  obtain rfl := ha (by omega)
  subst hn
  have hcell : ∀ j, j < ks.length → w.cell? ⟨b, o + j, none⟩ = some (encStr (ks[j]?.getD [])) ∧ (ks[j]?.getD []).length ≤ maxLen := fun j hj => by
   have hg : (ks.map PD.str)[j]? = some (.str ks[j]) := by simp [hj]
   obtain ⟨u, hu, _⟩ := h6 j _ 0 hg (by omega)
   have h8 := h7 j _ 0 _ u hg rfl hu
   cases h8 with
   | @str ba _ hba hl =>
   have := hmem _ _ _ hu
   simp only [Nat.mul_one, Nat.add_zero] at this
   refine ⟨by rw [this, encStr_eq hba]; simp [hj], by simpa [hj] using hl⟩
  refine ⟨.inr ⟨b, o, c, rfl, kQ (hcell 0 hpos).1, fun j hj => (hcell j hj).1⟩, by omega, fun s hs => ?_⟩
  obtain ⟨j, hj, rfl⟩ := List.mem_iff_getElem.1 hs
  have := (hcell j hj).2
  simpa [hj] using this
theorem sorted_ax (i : Nat) (ks : List (List UInt8)) (hb : ks.length * 16 ≤ 140737488351232) : AX Tryz.prog G 162 [.func (.func 209) [] [.ptr i 0]] [(i, .vars 27 [.p (.sl 1 (ks.map PD.str))])]
  (.p (.sl 1 ((wF ks).map PD.str))) [] [] := by
 refine ⟨vL Tryz.func162 (by kernel_rfl) rfl, fun M μ w vs hg rel => ?_⟩
 have hsz : vs.size = 1 := rel.slots.1
 obtain ⟨l⟩ := vs
 match l, hsz with
 | [u], _ =>
 have hu := rel.slots.2 0 u _ rfl rfl
 cases hu with
 | @func _ fa ca _ _ h1 h2 h3 h4 =>
 obtain rfl : fa = #[] := Array.eq_empty_of_size_eq_zero h1
 obtain ⟨c⟩ := ca
 match c, h2, h4 with
 | [q], _, h4 =>
 have hq := h4 0 q _ rfl rfl
 cases hq with
 | @ptr _ _ b hblk =>
 have hbx := rel.box i (.vars 27 [.p (.sl 1 (ks.map PD.str))]) (List.mem_singleton.2 rfl)
 cases hbx with
 | @vars _ _ b' arr g0 g1 g2 g3 g4 =>
 rw [hblk] at g0
 cases g0
 obtain ⟨al⟩ := arr
 match al, g2, g1, g4 with
 | [sv], _, g1, g4 =>
 have hsv := (g4 0 sv _ rfl rfl).p_inv
 obtain ⟨hS, hlen, hsl⟩ := strs_of rel.mem hsv
 have hbl : b < w.heap.size := (Array.getElem?_eq_some_iff.1 g1).1
 refine (qQW b sv ks hlen hb w hbl (by simp [World.cell?, g1]) hS).mono ?_
 rintro e w' ⟨v, rfl, hrow, hbel⟩
 have hkeep : ∀ b o v, M b o = some v → w'.cell? ⟨b, o, none⟩ = some v := fun b o v hv => by
  have h := rel.mem b o v hv
  exact (World.cell?_of_block (w := w) (hbel.block b (kQ h))).trans h
 have base : ∀ M' : qY, (∀ b o v, M b o = some v → M' b o = some v) → (∀ b o v, M' b o = some v → w'.cell? ⟨b, o, none⟩ = some v) → (∀ b o, b < w.heap.size → M' b o = M b o) → Rd M' v (.sl 1 ((wF ks).map PD.str)) →
   ∃ v_1 M' μ', Ending.returned v = Ending.returned v_1 ∧ Rel ⟨w.heap.size, w, M, μ, wW μ [(i, .vars 27 [.p (.sl 1 (ks.map PD.str))])]⟩ M' μ' ⟨[.p (.sl 1 ((wF ks).map PD.str))], [], [], 0⟩ #[v_1] w' := by
  intro M' hM hmem hold hrd
  refine ⟨v, M', μ, rfl, hmem, hM, fun b o hb => hold b o (by have : ¬ w.heap.size ≤ b := fun e => hb (.inl e); omega), ⟨rfl, fun k u x hu hx => ?_⟩, fun i hi => by simp at hi, fun i b hi => by simp at hi, by simp, fun i j b hi => by simp [qO] at hi, fun i b hi => by simp [qO] at hi, hbel.size, ?_⟩
  ·cases k with
   | zero => simp at hu hx; subst hu; subst hx; exact .p hrd
   | succ k => simp at hu
  ·exact ⟨hbel.os, hbel.tape, hbel.output, hbel.size, fun k hk => hbel.block k (by have : ¬ w.heap.size ≤ k := fun e => hk (.inl e); omega)⟩
 have hsk := qOL ks
 rcases hrow.2 with ⟨rfl, hz⟩ | ⟨gb, cap, cur, rfl, hbase, hgb, r1, r2, r3, r4⟩
 ·have hks : ks = [] := List.eq_nil_of_length_eq_zero hz
  subst hks
  refine base M (fun _ _ _ h => h) hkeep (fun _ _ _ => rfl) ?_
  exact .sl 0 0 (by simp [wF]) (Nat.le_refl _) (by simp [maxLen]) (fun h => (h rfl).elim) (fun i e h => by simp [wF] at h) (fun i e j h => by simp [wF] at h) (fun i e j d u h => by simp [wF] at h)
 ·have hcell : ∀ j, w'.cell? ⟨gb, j, none⟩ = cur[j]? := fun j => zG hgb
  let M2 : qY := fun b o => if b = gb ∧ o < ks.length then cur[o]? else M b o
  have hlt : ∀ b o v, M b o = some v → b < w.heap.size := fun b o v hv => kQ (rel.mem b o v hv)
  have hcur : ∀ j, j < ks.length → cur[j]? = some (encStr ((wF ks)[j]?.getD [])) := fun j hj => by
   have h5 : (cur.toList.take (ks.length * 1))[j]? = ((wF ks).map encStr)[j]? := by rw [r4]
   rw [List.getElem?_take_of_lt (by omega)] at h5
   rw [← Array.getElem?_toList, h5]; simp [show j < (wF ks).length by omega]
  have hM2 : ∀ o, o < ks.length → M2 gb o = cur[o]? := fun o ho => if_pos ⟨rfl, ho⟩
  refine base M2 (fun b o v hv => ?_) (fun b o v hv => ?_) (fun b o hb => ?_) ?_
  ·have := hlt b o v hv
   show (if b = gb ∧ o < ks.length then cur[o]? else M b o) = some v
   rw [if_neg (by omega)]; exact hv
  ·have hv' : (if b = gb ∧ o < ks.length then cur[o]? else M b o) = some v := hv
   split at hv'
   ·rename_i h; rw [h.1, hcell]; exact hv'
   ·exact hkeep b o v hv'
  ·show (if b = gb ∧ o < ks.length then cur[o]? else M b o) = M b o
   rw [if_neg (by omega)]
  ·refine .sl gb 0 (by simp [hsk]) r1 r2 (fun _ => rfl) (fun j e he => ?_) (fun j e k he hk => ?_) (fun j e k d u he hd hu => ?_)
   ·simp at he; obtain ⟨s, _, rfl⟩ := he; rfl
   ·have hj : j < ks.length := by have := (List.getElem?_eq_some_iff.1 he).1; simp [hsk] at this; exact this
    obtain rfl : k = 0 := by omega
    refine ⟨_, by simp only [Nat.mul_one, Nat.add_zero, Nat.zero_add]; rw [hM2 j hj, hcur j hj], rfl⟩
   ·have hj : j < ks.length := by have := (List.getElem?_eq_some_iff.1 he).1; simp [hsk] at this; exact this
    have hjs : j < (wF ks).length := by omega
    simp [hjs] at he
    subst he
    cases k with
    | succ k => simp [PD.cells] at hd
    | zero =>
     simp [PD.cells] at hd
     subst hd
     simp at hu
     rw [hM2 j hj, hcur j hj] at hu
     simp [hjs] at hu
     subst hu
     refine .str (by simp [encStr]) ?_
     exact hsl _ ((List.mergeSort_perm ks _).mem_iff.1 (List.getElem_mem hjs))
end Go.Proofs.YtdojfdaglbphlaaGreatDoor
namespace Go.Proofs.YtdojfdaglbphlaaGreatDoor
open Sy Go
set_option maxRecDepth 100000
set_option maxHeartbeats 4000000
set_option linter.unusedSimpArgs false
set_option linter.unusedVariables false
variable {G : qS}
def qHF (a b : Int) : Int := if a < b then -1 else if b < a then 1 else 0
def vY (a b : List UInt8) : Int := if Op.bytesLess a b = true then -1 else if a = b then 0 else 1
def yT {α : Type} (p : α → α → Int) : List α → List α → Int
 | [], [] => 0
 | [], _ :: _ => -1
 | _ :: _, [] => 1
 | x :: xs, y :: ys => if p x y ≠ 0 then p x y else yT p xs ys
theorem nanI_ev (a : Int) : AFn Tryz.prog G 159 [.int .i64 a] (.bool false) := by
 refine AFn.introU tok Tryz.func159 (by kernel_rfl) rfl rfl ?_
 simp only [Tryz.f159, qK, List.map_cons, List.map_nil]
 refine rgn [] [[0]] ?_
 refine op1 tok ?_
 refine qA ?_
 refine rgn [] [[], [], [], [2]] ?_
 iterate 4 refine op1 tok ?_
 refine qA ?_
 exact AW.ret ⟨.inr rfl, _, _, by (conv => lhs; simp), trivial, by simp⟩
theorem nanE_ev (a : Int) : AFn Tryz.prog G 161 [.int .i64 a] (.bool false) := by
 refine AFn.introU tok Tryz.func161 (by kernel_rfl) rfl rfl ?_
 simp only [Tryz.f161, qK, List.map_cons, List.map_nil]
 refine rgn [] [[0]] ?_
 refine op1 tok ?_
 refine qA ?_
 refine rgn [] [[], [], [], [2]] ?_
 iterate 4 refine op1 tok ?_
 refine qA ?_
 exact AW.ret ⟨.inr rfl, _, _, by (conv => lhs; simp), trivial, by simp⟩
theorem nanS_ev (a : List UInt8) : AFn Tryz.prog G 210 [.str a] (.bool false) := by
 refine AFn.introU tok Tryz.func210 (by kernel_rfl) rfl rfl ?_
 simp only [Tryz.f210, qK, List.map_cons, List.map_nil]
 refine rgn [] [[0]] ?_
 refine op1 tok ?_
 refine qA ?_
 refine rgn [] [[], [], [], [2]] ?_
 iterate 4 refine op1 tok ?_
 refine qA ?_
 exact AW.ret ⟨.inr rfl, _, _, by (conv => lhs; simp), trivial, by simp⟩
theorem cmpI_ev (a b : Int) : AFn Tryz.prog G 102 [.int .i64 a, .int .i64 b] (.int .i64 (qHF a b)) := by
 refine AFn.introU tok Tryz.func102 (by kernel_rfl) rfl rfl ?_
 simp only [Tryz.f102, qK, List.map_cons, List.map_nil]
 refine rgn [] [[0, 1]] ?_
 refine op1 tok ?_
 refine qA ?_
 refine rgn [.nilp, .bool false] [[], [], [0, 1, 5]] ?_
 iterate 3 refine op1 tok ?_ (hv := by first | with_reducible exact True.intro | (exact nanI_ev a; done) | omega | simp | (simp +contextual; omega))
 refine qA ?_
 refine rgn [.nilp, .bool false] [[], [], [0, 1, 5, 6]] ?_
 iterate 3 refine op1 tok ?_ (hv := by first | with_reducible exact True.intro | (exact nanI_ev b; done) | omega | simp | (simp +contextual; omega))
 refine qA ?_
 refine AW.seq ?_
 refine rgn [] [[0, 1, 6, 11]] ?_
 refine op1 tok ?_
 refine qA ?_
 refine cnd ?_ ?_
 ·intro h11
  try simp at h11
 ·intro h11
  try simp at h11
  refine AW.skip ?_
  refine AW.seq ?_
  refine rgn [] [[0, 1, 13]] ?_
  refine op1 tok ?_
  refine qA ?_
  refine cnd ?_ ?_
  ·intro h13
   try simp at h13
  ·intro h13
   try simp at h13
   refine AW.skip ?_
   refine AW.seq ?_
   refine rgn [] [[], [], [0, 1, 16]] ?_
   iterate 3 refine op1 tok ?_
   refine qA ?_
   refine cnd ?_ ?_
   ·intro h16
    try simp at h16
    refine rgn [] [[]] ?_
    refine op1 tok ?_
    refine qA ?_
    exact AW.ret ⟨.inr rfl, _, _, by (conv => lhs; simp), trivial, by simp [qHF, h16]⟩
   ·intro h16
    try simp at h16
    refine AW.skip ?_
    refine AW.seq ?_
    refine rgn [] [[], [], [19]] ?_
    iterate 3 refine op1 tok ?_
    refine qA ?_
    refine cnd ?_ ?_
    ·intro h19
     try simp at h19
     refine rgn [] [[]] ?_
     refine op1 tok ?_
     refine qA ?_
     exact AW.ret ⟨.inr rfl, _, _, by (conv => lhs; simp), trivial, by simp [qHF, h19]; omega⟩
    ·intro h19
     try simp at h19
     refine AW.skip ?_
     refine rgn [] [[]] ?_
     refine op1 tok ?_
     refine qA ?_
     exact AW.ret ⟨.inr rfl, _, _, by (conv => lhs; simp), trivial, by simp [qHF]; omega⟩
theorem cmpE_ev (a b : Int) : AFn Tryz.prog G 106 [.int .i64 a, .int .i64 b] (.int .i64 (qHF a b)) := by
 refine AFn.introU tok Tryz.func106 (by kernel_rfl) rfl rfl ?_
 simp only [Tryz.f106, qK, List.map_cons, List.map_nil]
 refine rgn [] [[0, 1]] ?_
 refine op1 tok ?_
 refine qA ?_
 refine rgn [.nilp, .bool false] [[], [], [0, 1, 5]] ?_
 iterate 3 refine op1 tok ?_ (hv := by first | with_reducible exact True.intro | (exact nanE_ev a; done) | omega | simp | (simp +contextual; omega))
 refine qA ?_
 refine rgn [.nilp, .bool false] [[], [], [0, 1, 5, 6]] ?_
 iterate 3 refine op1 tok ?_ (hv := by first | with_reducible exact True.intro | (exact nanE_ev b; done) | omega | simp | (simp +contextual; omega))
 refine qA ?_
 refine AW.seq ?_
 refine rgn [] [[0, 1, 6, 11]] ?_
 refine op1 tok ?_
 refine qA ?_
 refine cnd ?_ ?_
 ·intro h11
  try simp at h11
 ·intro h11
  try simp at h11
  refine AW.skip ?_
  refine AW.seq ?_
  refine rgn [] [[0, 1, 13]] ?_
  refine op1 tok ?_
  refine qA ?_
  refine cnd ?_ ?_
  ·intro h13
   try simp at h13
  ·intro h13
   try simp at h13
   refine AW.skip ?_
   refine AW.seq ?_
   refine rgn [] [[], [], [0, 1, 16]] ?_
   iterate 3 refine op1 tok ?_
   refine qA ?_
   refine cnd ?_ ?_
   ·intro h16
    try simp at h16
    refine rgn [] [[]] ?_
    refine op1 tok ?_
    refine qA ?_
    exact AW.ret ⟨.inr rfl, _, _, by (conv => lhs; simp), trivial, by simp [qHF, h16]⟩
   ·intro h16
    try simp at h16
    refine AW.skip ?_
    refine AW.seq ?_
    refine rgn [] [[], [], [19]] ?_
    iterate 3 refine op1 tok ?_
    refine qA ?_
    refine cnd ?_ ?_
    ·intro h19
     try simp at h19
     refine rgn [] [[]] ?_
     refine op1 tok ?_
     refine qA ?_
     exact AW.ret ⟨.inr rfl, _, _, by (conv => lhs; simp), trivial, by simp [qHF, h19]; omega⟩
    ·intro h19
     try simp at h19
     refine AW.skip ?_
     refine rgn [] [[]] ?_
     refine op1 tok ?_
     refine qA ?_
     exact AW.ret ⟨.inr rfl, _, _, by (conv => lhs; simp), trivial, by simp [qHF]; omega⟩
theorem cmpS_ev (a b : List UInt8) : AFn Tryz.prog G 164 [.str a, .str b] (.int .i64 (vY a b)) := by
 refine AFn.introU tok Tryz.func164 (by kernel_rfl) rfl rfl ?_
 simp only [Tryz.f164, qK, List.map_cons, List.map_nil]
 refine rgn [] [[0, 1]] ?_
 refine op1 tok ?_
 refine qA ?_
 refine rgn [.nilp, .bool false] [[], [], [0, 1, 5]] ?_
 iterate 3 refine op1 tok ?_ (hv := by first | with_reducible exact True.intro | (exact nanS_ev a; done) | omega | simp | (simp +contextual; omega))
 refine qA ?_
 refine rgn [.nilp, .bool false] [[], [], [0, 1, 5, 6]] ?_
 iterate 3 refine op1 tok ?_ (hv := by first | with_reducible exact True.intro | (exact nanS_ev b; done) | omega | simp | (simp +contextual; omega))
 refine qA ?_
 refine AW.seq ?_
 refine rgn [] [[0, 1, 6, 11]] ?_
 refine op1 tok ?_
 refine qA ?_
 refine cnd ?_ ?_
 ·intro h11
  try simp at h11
 ·intro h11
  try simp at h11
  refine AW.skip ?_
  refine AW.seq ?_
  refine rgn [] [[0, 1, 13]] ?_
  refine op1 tok ?_
  refine qA ?_
  refine cnd ?_ ?_
  ·intro h13
   try simp at h13
  ·intro h13
   try simp at h13
   refine AW.skip ?_
   refine AW.seq ?_
   refine rgn [] [[], [], [0, 1, 16]] ?_
   iterate 3 refine op1 tok ?_
   refine qA ?_
   refine cnd ?_ ?_
   ·intro h16
    try simp at h16
    refine rgn [] [[]] ?_
    refine op1 tok ?_
    refine qA ?_
    exact AW.ret ⟨.inr rfl, _, _, by (conv => lhs; simp), trivial, by simp [vY, h16]⟩
   ·intro h16
    try simp at h16
    refine AW.skip ?_
    refine AW.seq ?_
    refine rgn [] [[], [], [19]] ?_
    iterate 3 refine op1 tok ?_
    refine qA ?_
    refine cnd ?_ ?_
    ·intro h19
     try simp at h19
     refine rgn [] [[]] ?_
     refine op1 tok ?_
     refine qA ?_
     exact AW.ret ⟨.inr rfl, _, _, by (conv => lhs; simp), trivial, by simp [vY, h19]⟩
    ·intro h19
     try simp at h19
     have hab : a = b := h19 h16
     subst hab
     refine AW.skip ?_
     refine rgn [] [[]] ?_
     refine op1 tok ?_
     refine qA ?_
     exact AW.ret ⟨.inr rfl, _, _, by (conv => lhs; simp), trivial, by simp [vY, h16]⟩
theorem cmpL_nil {α : Type} (p : α → α → Int) (l : List α) : yT p l [] = if l = [] then 0 else 1 := by cases l <;> simp [yT]
theorem qQC {α : Type} {p : α → α → Int} {l m : List α} {k : Nat} {x y : α} (hx : l[k]? = some x) (hy : m[k]? = some y) : yT p (l.drop k) (m.drop k) = if p x y ≠ 0 then p x y else yT p (l.drop (k + 1)) (m.drop (k + 1)) := by
 obtain ⟨h1, rfl⟩ := List.getElem?_eq_some_iff.1 hx
 obtain ⟨h2, rfl⟩ := List.getElem?_eq_some_iff.1 hy
 rw [List.drop_eq_getElem_cons h1, List.drop_eq_getElem_cons h2]; rfl
theorem qQB {α : Type} {p : α → α → Int} {l m : List α} {k : Nat} (h1 : k < l.length) (h2 : m.length ≤ k) : yT p (l.drop k) (m.drop k) = 1 := by
 rw [List.drop_eq_nil_of_le h2, cmpL_nil, if_neg (by intro h; have := congrArg List.length h; simp at this; omega)]
theorem qVY {α : Type} {p : α → α → Int} {l m : List α} {k : Nat} (h1 : l.length ≤ k) (hk : k ≤ l.length) (h2 : k ≤ m.length) : yT p (l.drop k) (m.drop k) = if l.length < m.length then -1 else 0 := by
 rw [List.drop_eq_nil_of_le h1]
 by_cases h : k < m.length
 ·rw [List.drop_eq_getElem_cons h, if_pos (by omega)]; rfl
 ·rw [List.drop_eq_nil_of_le (by omega), if_neg (by omega)]; rfl
theorem cmpSL_ev (l m : List (List UInt8)) : AFn Tryz.prog G 109 [.sl 1 (l.map PD.str), .sl 1 (m.map PD.str)] (.int .i64 (yT vY l m)) := by
 refine AFn.introU tok Tryz.func109 (by kernel_rfl) rfl rfl ?_
 simp only [Tryz.f109, qK, List.map_cons, List.map_nil]
 refine rgn [] [[0, 1]] ?_
 refine op1 tok ?_
 refine qA ?_
 refine AW.seq ?_
 refine rgn [] [[], [], []] ?_
 iterate 3 refine op1 tok ?_
 refine qA ?_
 refine AW.block ?_
 refine AW.intFactU (i := 10) rfl (by decide) ?_; intro hlen; simp at hlen
 refine AW.loop (α := Nat) (fun k => k ≤ l.length ∧ k ≤ m.length ∧ yT vY l m = yT vY (l.drop k) (m.drop k)) (fun k => ⟨qW 36 [(0, .p (.sl 1 (l.map PD.str))), (1, .p (.sl 1 (m.map PD.str))), (9, .p (.sl 1 (l.map PD.str))), (10, .p (.int .i64 l.length)), (11, .p (.int .i64 k))], [], [], 0⟩) (fun k => l.length - k) (0) ⟨by omega, by omega, rfl⟩ ⟨qB (by simp), rfl, by simp, by simp⟩ ?_
 rintro k ⟨hk, hkm, hall⟩
 refine rgn [] [[]] ?_
 refine op1 tok ?_
 refine qA ?_
 refine AW.seq ?_
 refine cnd ?_ ?_
 ·intro h12
  try simp at h12
  obtain ⟨x, hx⟩ : ∃ x, l[k]? = some x := ⟨l[k], by simp [h12]⟩
  refine AW.skip ?_
  refine AW.seq ?_
  refine AW.block ?_
  refine rgn [.str x] [[], [], [], [], [0, 1, 5, 6, 9, 10, 11]] ?_
  iterate 5 refine op1 tok ?_ (hv := by first | with_reducible exact True.intro | (simp [hx]; done) | omega | simp | (simp +contextual; omega))
  refine qA ?_
  refine AW.seq ?_
  refine rgn [] [[], [], [], [0, 1, 5, 6, 9, 10, 11, 19]] ?_
  iterate 4 refine op1 tok ?_
  refine qA ?_
  refine cnd ?_ ?_
  ·intro h19
   try simp at h19
   have hR : yT vY l m = 1 := by rw [hall]; exact qQB (by omega) (by omega)
   refine rgn [] [[]] ?_
   refine op1 tok ?_
   refine qA ?_
   exact AW.ret ⟨.inr rfl, _, _, by (conv => lhs; simp), trivial, by simp [hR]⟩
  ·intro h19
   try simp at h19
   obtain ⟨y, hy⟩ : ∃ y, m[k]? = some y := ⟨m[k]'(by omega), by simp [show k < m.length by omega]⟩
   have hst := qQC (p := vY) hx hy
   refine AW.skip ?_
   refine rgn [.str y] [[], [], [], [0, 1, 6, 9, 10, 11, 23], [0, 1, 6, 7, 9, 10, 11]] ?_
   iterate 5 refine op1 tok ?_ (hv := by first | with_reducible exact True.intro | (simp [hy]; done) | omega | simp | (simp +contextual; omega))
   refine qA ?_
   refine rgn [.nilp, .int .i64 (vY x y)] [[], [], [0, 1, 9, 10, 11, 26], [0, 1, 8, 9, 10, 11]] ?_
   iterate 4 refine op1 tok ?_ (hv := by first | with_reducible exact True.intro | (exact cmpS_ev x y; done) | omega | simp | (simp +contextual; omega))
   refine qA ?_
   refine rgn [] [[], [0, 1, 8, 9, 10, 11, 28]] ?_
   iterate 2 refine op1 tok ?_
   refine qA ?_
   refine cnd ?_ ?_
   ·intro h28
    try simp at h28
    have hR : yT vY l m = vY x y := by rw [hall, hst, if_pos h28]
    refine rgn [] [[], [4]] ?_
    iterate 2 refine op1 tok ?_
    refine qA ?_
    exact AW.ret ⟨.inr rfl, _, _, by (conv => lhs; simp), trivial, by simp [hR]⟩
   ·intro h28
    try simp at h28
    have hnx : yT vY l m = yT vY (l.drop (k + 1)) (m.drop (k + 1)) := by rw [hall, hst, if_neg (by omega)]
    refine AW.skip ?_
    refine rgz [] [[], [0, 1, 9, 10, 11]] ?_
    iterate 2 refine op1 tok ?_
    refine qA ?_
    exact ⟨k + 1, ⟨by omega, by omega, hnx⟩, by omega, qB (by simp), rfl, by simp, by simp⟩
 ·intro h12
  try simp at h12
  have hE := qVY (p := vY) (l := l) (m := m) (k := k) (by omega) hk hkm
  rw [← hall] at hE
  refine AW.exit ?_
  simp
  refine AW.seq ?_
  refine rgn [] [[], [], [], [32, 34], [35]] ?_
  iterate 5 refine op1 tok ?_
  refine qA ?_
  refine cnd ?_ ?_
  ·intro h35
   try simp at h35
   have hR : yT vY l m = -1 := by rw [hE, if_pos (by omega)]
   refine rgn [] [[]] ?_
   refine op1 tok ?_
   refine qA ?_
   exact AW.ret ⟨.inr rfl, _, _, by (conv => lhs; simp), trivial, by simp [hR]⟩
  ·intro h35
   try simp at h35
   have hR : yT vY l m = 0 := by rw [hE, if_neg (by omega)]
   refine AW.skip ?_
   refine rgn [] [[]] ?_
   refine op1 tok ?_
   refine qA ?_
   exact AW.ret ⟨.inr rfl, _, _, by (conv => lhs; simp), trivial, by simp [hR]⟩
theorem qVX (l m : List Val) (g : FuncId) (p : Val → Val → Int) (hg : ∀ x ∈ l, ∀ y ∈ m, AFn Tryz.prog G g [x.enc, y.enc] (.int .i64 (p x y))) : AFn Tryz.prog G 105 [.sl 9 (l.map Val.enc), .sl 9 (m.map Val.enc), .fn g] (.int .i64 (yT p l m)) := by
 refine AFn.introU tok Tryz.func105 (by kernel_rfl) rfl rfl ?_
 simp only [Tryz.f105, qK, List.map_cons, List.map_nil]
 refine rgn [] [[0, 1, 2]] ?_
 refine op1 tok ?_
 refine qA ?_
 refine AW.seq ?_
 refine rgn [] [[], [], []] ?_
 iterate 3 refine op1 tok ?_
 refine qA ?_
 refine AW.block ?_
 refine AW.intFactU (i := 12) rfl (by decide) ?_; intro hlen; simp at hlen
 refine AW.loop (α := Nat) (fun k => k ≤ l.length ∧ k ≤ m.length ∧ yT p l m = yT p (l.drop k) (m.drop k)) (fun k => ⟨qW 39 [(0, .p (.sl 9 (l.map Val.enc))), (1, .p (.sl 9 (m.map Val.enc))), (2, .p (.fn g)), (11, .p (.sl 9 (l.map Val.enc))), (12, .p (.int .i64 l.length)), (13, .p (.int .i64 k))], [], [], 0⟩) (fun k => l.length - k) (0) ⟨by omega, by omega, rfl⟩ ⟨qB (by simp), rfl, by simp, by simp⟩ ?_
 rintro k ⟨hk, hkm, hall⟩
 refine rgn [] [[]] ?_
 refine op1 tok ?_
 refine qA ?_
 refine AW.seq ?_
 refine cnd ?_ ?_
 ·intro h14
  try simp at h14
  obtain ⟨x, hx⟩ : ∃ x, l[k]? = some x := ⟨l[k], by simp [h14]⟩
  refine AW.skip ?_
  refine AW.seq ?_
  refine AW.block ?_
  refine rgn [x.enc] [[], [], [], [], [], [0, 1, 2, 7, 8, 11, 12, 13]] ?_
  iterate 6 refine op1 tok ?_ (hv := by first | with_reducible exact True.intro | (simp [hx]; done) | omega | simp | (simp +contextual; omega))
  refine qA ?_
  refine AW.seq ?_
  refine rgn [] [[], [], [], [0, 1, 2, 7, 8, 11, 12, 13, 21]] ?_
  iterate 4 refine op1 tok ?_
  refine qA ?_
  refine cnd ?_ ?_
  ·intro h21
   try simp at h21
   have hR : yT p l m = 1 := by rw [hall]; exact qQB (by omega) (by omega)
   refine rgn [] [[]] ?_
   refine op1 tok ?_
   refine qA ?_
   exact AW.ret ⟨.inr rfl, _, _, by (conv => lhs; simp), trivial, by simp [hR]⟩
  ·intro h21
   try simp at h21
   obtain ⟨y, hy⟩ : ∃ y, m[k]? = some y := ⟨m[k]'(by omega), by simp [show k < m.length by omega]⟩
   have hst := qQC (p := p) hx hy
   have hgv := hg x (List.mem_of_getElem? hx) y (List.mem_of_getElem? hy)
   refine AW.skip ?_
   refine rgn [y.enc] [[], [], [], [0, 1, 2, 8, 11, 12, 13, 25], [], [0, 1, 2, 8, 9, 11, 12, 13]] ?_
   iterate 6 refine op1 tok ?_ (hv := by first | with_reducible exact True.intro | (simp [hy]; done) | omega | simp | (simp +contextual; omega))
   refine qA ?_
   refine rgn [.tup [x.enc, y.enc], .int .i64 (p x y)] [[], [], [], [0, 1, 2, 11, 12, 13, 29], [0, 1, 2, 10, 11, 12, 13]] ?_
   iterate 5 refine op1 tok ?_ (hv := by first | with_reducible exact True.intro | ((simp at hgv ⊢; exact hgv); done) | omega | simp | (simp +contextual; omega))
   refine qA ?_
   refine rgn [] [[], [0, 1, 2, 10, 11, 12, 13, 31]] ?_
   iterate 2 refine op1 tok ?_
   refine qA ?_
   refine cnd ?_ ?_
   ·intro h31
    try simp at h31
    have hR : yT p l m = p x y := by rw [hall, hst, if_pos h31]
    refine rgn [] [[], [6]] ?_
    iterate 2 refine op1 tok ?_
    refine qA ?_
    exact AW.ret ⟨.inr rfl, _, _, by (conv => lhs; simp), trivial, by simp [hR]⟩
   ·intro h31
    try simp at h31
    have hnx : yT p l m = yT p (l.drop (k + 1)) (m.drop (k + 1)) := by rw [hall, hst, if_neg (by omega)]
    refine AW.skip ?_
    refine rgz [] [[], [0, 1, 2, 11, 12, 13]] ?_
    iterate 2 refine op1 tok ?_
    refine qA ?_
    exact ⟨k + 1, ⟨by omega, by omega, hnx⟩, by omega, qB (by simp), rfl, by simp, by simp⟩
 ·intro h14
  try simp at h14
  have hE := qVY (p := p) (l := l) (m := m) (k := k) (by omega) hk hkm
  rw [← hall] at hE
  refine AW.exit ?_
  simp
  refine AW.seq ?_
  refine rgn [] [[], [], [], [35, 37], [38]] ?_
  iterate 5 refine op1 tok ?_
  refine qA ?_
  refine cnd ?_ ?_
  ·intro h38
   try simp at h38
   have hR : yT p l m = -1 := by rw [hE, if_pos (by omega)]
   refine rgn [] [[]] ?_
   refine op1 tok ?_
   refine qA ?_
   exact AW.ret ⟨.inr rfl, _, _, by (conv => lhs; simp), trivial, by simp [hR]⟩
  ·intro h38
   try simp at h38
   have hR : yT p l m = 0 := by rw [hE, if_neg (by omega)]
   refine AW.skip ?_
   refine rgn [] [[]] ?_
   refine op1 tok ?_
   refine qA ?_
   exact AW.ret ⟨.inr rfl, _, _, by (conv => lhs; simp), trivial, by simp [hR]⟩
def idxK (ks : List (List UInt8)) (s : List UInt8) : Int := if s ∈ ks then (ks.idxOf s : Int) else -1
theorem idxK_ev (l : List (List UInt8)) (s : List UInt8) : AFn Tryz.prog G 137 [.sl 1 (l.map PD.str), .str s] (.int .i64 (idxK l s)) := by
 refine AFn.introU tok Tryz.func137 (by kernel_rfl) rfl rfl ?_
 simp only [Tryz.f137, qK, List.map_cons, List.map_nil]
 refine rgn [] [[0, 1]] ?_
 refine op1 tok ?_
 refine qA ?_
 refine AW.seq ?_
 refine rgn [] [[], [], [0, 1, 7, 8]] ?_
 iterate 3 refine op1 tok ?_
 refine qA ?_
 refine AW.block ?_
 refine AW.intFactU (i := 7) rfl (by decide) ?_; intro hlen; simp at hlen
 refine AW.loop (α := Nat) (fun k => k ≤ l.length ∧ s ∉ l.take k) (fun k => ⟨qW 19 [(0, .p (.sl 1 (l.map PD.str))), (1, .p (.str s)), (7, .p (.int .i64 l.length)), (8, .p (.int .i64 k))], [], [], 0⟩) (fun k => l.length - k) (0) ⟨by omega, by simp⟩ ⟨qB (by simp), rfl, by simp, by simp⟩ ?_
 rintro k ⟨hk, hno⟩
 refine rgn [] [[]] ?_
 refine op1 tok ?_
 refine qA ?_
 refine AW.seq ?_
 refine cnd ?_ ?_
 ·intro h9
  try simp at h9
  obtain ⟨x, hx⟩ : ∃ x, l[k]? = some x := ⟨l[k], by simp [h9]⟩
  refine AW.skip ?_
  refine AW.seq ?_
  refine AW.block ?_
  refine rgn [] [[], [0, 1, 5, 7, 8]] ?_
  iterate 2 refine op1 tok ?_
  refine qA ?_
  refine rgn [.str x] [[], [], [], [], [], [0, 1, 5, 7, 8, 16]] ?_
  iterate 6 refine op1 tok ?_ (hv := by first | with_reducible exact True.intro | (simp [hx]; done) | omega | simp | (simp +contextual; omega))
  refine qA ?_
  refine cnd ?_ ?_
  ·intro h16
   try simp at h16
   have hR : idxK l s = k := by
    have hm : s ∈ l := by rw [h16]; exact List.mem_of_getElem? hx
    unfold idxK; rw [if_pos hm]
    have : l.idxOf s = k := by
     obtain ⟨h1, h2⟩ := List.getElem?_eq_some_iff.1 hx
     have h3 := List.take_append_drop k l
     rw [← h3, List.idxOf_append, if_neg hno, List.drop_eq_getElem_cons h1, h2, h16, List.idxOf_cons_self]
     simp; omega
    rw [this]
   refine rgn [] [[], [4]] ?_
   iterate 2 refine op1 tok ?_
   refine qA ?_
   exact AW.ret ⟨.inr rfl, _, _, by (conv => lhs; simp), trivial, by simp [hR]⟩
  ·intro h16
   try simp at h16
   refine AW.skip ?_
   refine rgz [] [[], [0, 1, 7, 8]] ?_
   iterate 2 refine op1 tok ?_
   refine qA ?_
   exact ⟨k + 1, ⟨by omega, by rw [List.take_add_one, hx]; simp; exact ⟨hno, h16⟩⟩, by omega, qB (by simp), rfl, by simp, by simp⟩
 ·intro h9
  try simp at h9
  have hR : idxK l s = -1 := by rw [List.take_of_length_le h9] at hno; unfold idxK; rw [if_neg hno]
  refine AW.exit ?_
  simp
  refine rgn [] [[]] ?_
  refine op1 tok ?_
  refine qA ?_
  exact AW.ret ⟨.inr rfl, _, _, by (conv => lhs; simp), trivial, by simp [hR]⟩
theorem or2_ev (a b : Int) : AFn Tryz.prog G 108 [.sl 1 [.int .i64 a, .int .i64 b]] (.int .i64 (if a ≠ 0 then a else b)) := by
 refine AFn.introU tok Tryz.func108 (by kernel_rfl) rfl rfl ?_
 simp only [Tryz.f108, qK, List.map_cons, List.map_nil]
 refine rgn [] [[0]] ?_
 refine op1 tok ?_
 refine qA ?_
 refine rgn [] [[]] ?_
 refine op1 tok ?_
 refine qA ?_
 refine AW.seq ?_
 refine rgn [] [[], [], [3, 6, 7, 8]] ?_
 iterate 3 refine op1 tok ?_
 refine qA ?_
 refine AW.block ?_
 refine AW.loop (α := Nat) (fun k => k ≤ 2 ∧ (1 ≤ k → a = 0) ∧ (2 ≤ k → b = 0)) (fun k => ⟨qW 18 [(3, .p (.int .i64 0)), (6, .p (.sl 1 [.int .i64 a, .int .i64 b])), (7, .p (.int .i64 2)), (8, .p (.int .i64 k))], [], [], 0⟩) (fun k => 2 - k) (0) ⟨by omega, by omega, by omega⟩ ⟨qB (by simp), rfl, by simp, by simp⟩ ?_
 rintro k ⟨hk, h1, h2⟩
 refine rgn [] [[]] ?_
 refine op1 tok ?_
 refine qA ?_
 refine AW.seq ?_
 refine cnd ?_ ?_
 ·intro h9
  try simp at h9
  have hel : [a, b][k]? = some (if k = 0 then a else b) := by
   match k, h9 with
   | 0, _ => rfl
   | 1, _ => rfl
  have helP : [PD.int .i64 a, PD.int .i64 b][k]? = some (.int .i64 (if k = 0 then a else b)) := by
   match k, h9 with
   | 0, _ => rfl
   | 1, _ => rfl
  refine AW.skip ?_
  refine AW.seq ?_
  refine AW.block ?_
  refine rgn [.int .i64 (if k = 0 then a else b)] [[], [], [3, 5, 6, 7, 8]] ?_
  iterate 3 refine op1 tok ?_ (hv := by first | with_reducible exact True.intro | (first | exact helP | simp [helP]; done) | omega | simp | (simp +contextual; omega))
  refine qA ?_
  refine rgn [] [[], [], [3, 5, 6, 7, 8, 14]] ?_
  iterate 3 refine op1 tok ?_
  refine qA ?_
  refine cnd ?_ ?_
  ·intro h14
   try simp at h14
   have hR : (if a ≠ 0 then a else b) = (if k = 0 then a else b) := by
    by_cases hk0 : k = 0
    ·subst hk0; simp at h14 ⊢; intro e; exact absurd e h14
    ·rw [if_neg hk0, if_neg (by simp; exact h1 (by omega))]
   rw [hR]
   refine rgn [] [[], [2]] ?_
   iterate 2 refine op1 tok ?_
   refine qA ?_
   exact AW.ret ⟨.inr rfl, _, _, by (conv => lhs; simp), trivial, by simp⟩
  ·intro h14
   try simp at h14
   have e1 : 1 ≤ k + 1 → a = 0 := by
    intro _
    by_cases hk0 : k = 0
    ·simpa [hk0] using h14
    ·exact h1 (by omega)
   have e2 : 2 ≤ k + 1 → b = 0 := by
    intro h
    rw [if_neg (by omega)] at h14; exact h14
   refine AW.skip ?_
   refine rgz [] [[], [3, 6, 7, 8]] ?_
   iterate 2 refine op1 tok ?_
   refine qA ?_
   exact ⟨k + 1, ⟨by omega, e1, e2⟩, by omega, qB (by simp), rfl, by simp, by simp⟩
 ·intro h9
  try simp at h9
  have ha : a = 0 := h1 (by omega)
  have hb : b = 0 := h2 (by omega)
  subst ha hb
  refine AW.exit ?_
  simp
  refine rgn [] [[], [2]] ?_
  iterate 2 refine op1 tok ?_
  refine qA ?_
  exact AW.ret ⟨.inr rfl, _, _, by (conv => lhs; simp), trivial, by simp⟩
end Go.Proofs.YtdojfdaglbphlaaGreatDoor
