import Derived.Test.YtdojfdaglbphlaaGreatDoorM4
import Derived.Test.YtdojfdaglbphlaaGreatDoorM3
import Derived.Test.YtdojfdaglbphlaaGreatDoorM1
import Derived.Maps.RangeRun
import Derived.Laws.RangeString
import Derived.Lib.RuneCount
import Derived.Lib.ValidU
import Derived.Lib.LaidU8T
import Derived.Lib.MapLaws
import Derived.Lib.ValidLaws
import Derived.RangeFuncBox
import Derived.RangeFuncLeaves
import Derived.Shelf.Abstract
import Derived.WalkKit
import Derived.OwnWalkIn
import Derived.TacticsInMore
import Derived.LoopNIn
import Derived.LoopIn
import Derived.Maps.AppendAt
import Derived.Shelf.Sort.Plain
import Derived.Test.YtdojfdaglbphlaaGreatDoorProg
import Derived.Shelf.Unicode.DecodeAny
import Derived.Shelf.Small.Strs
import Derived.Shelf.Strings.Repeat
import Derived.Shelf.Strings.Builder1
import Derived.Shelf.Slices.In.SortNone
import Derived.Sort.OwnSorted
import Derived.Lib.Repeat
namespace Go.Proofs.YtdojfdaglbphlaaGreatDoor
open Sy Go
set_option maxRecDepth 100000
set_option linter.unusedSimpArgs false
set_option linter.unusedVariables false
structure Dc where
 neg : Bool
 digits : List UInt8
 scale : Int
 deriving DecidableEq
@[simp] def Dc.enc (d : Dc) : PD := .agg [.bool d.neg, .str d.digits, .int .i64 d.scale]
inductive Val where
 | mk (kind mask : Int) (num : Dc) (text : List UInt8) (keys : List (List UInt8)) (kids : List Val) (code : Int)
def Val.kind : Val → Int
 | .mk k _ _ _ _ _ _ => k
def Val.mask : Val → Int
 | .mk _ m _ _ _ _ _ => m
def Val.num : Val → Dc
 | .mk _ _ n _ _ _ _ => n
def Val.text : Val → List UInt8
 | .mk _ _ _ t _ _ _ => t
def Val.keys : Val → List (List UInt8)
 | .mk _ _ _ _ ks _ _ => ks
def Val.kids : Val → List Val
 | .mk _ _ _ _ _ vs _ => vs
def Val.code : Val → Int
 | .mk _ _ _ _ _ _ c => c
@[simp] theorem Val.kind_mk (k m : Int) (n : Dc) (t : List UInt8) (ks : List (List UInt8)) (vs : List Val) (c : Int) : (Val.mk k m n t ks vs c).kind = k := rfl
@[simp] theorem Val.mask_mk (k m : Int) (n : Dc) (t : List UInt8) (ks : List (List UInt8)) (vs : List Val) (c : Int) : (Val.mk k m n t ks vs c).mask = m := rfl
@[simp] theorem Val.num_mk (k m : Int) (n : Dc) (t : List UInt8) (ks : List (List UInt8)) (vs : List Val) (c : Int) : (Val.mk k m n t ks vs c).num = n := rfl
@[simp] theorem Val.text_mk (k m : Int) (n : Dc) (t : List UInt8) (ks : List (List UInt8)) (vs : List Val) (c : Int) : (Val.mk k m n t ks vs c).text = t := rfl
@[simp] theorem Val.keys_mk (k m : Int) (n : Dc) (t : List UInt8) (ks : List (List UInt8)) (vs : List Val) (c : Int) : (Val.mk k m n t ks vs c).keys = ks := rfl
@[simp] theorem Val.kids_mk (k m : Int) (n : Dc) (t : List UInt8) (ks : List (List UInt8)) (vs : List Val) (c : Int) : (Val.mk k m n t ks vs c).kids = vs := rfl
@[simp] theorem Val.code_mk (k m : Int) (n : Dc) (t : List UInt8) (ks : List (List UInt8)) (vs : List Val) (c : Int) : (Val.mk k m n t ks vs c).code = c := rfl
mutual
def Val.enc : Val → PD
 | .mk k m n t ks vs c => .agg [.int .i64 k, .int .u64 m, .bool n.neg, .str n.digits, .int .i64 n.scale, .str t, .sl 1 (ks.map PD.str), .sl 9 (Val.encL vs), .int .i64 c]
def Val.encL : List Val → List PD
 | [] => []
 | v :: vs => Val.enc v :: Val.encL vs
end
def dc0 : Dc := ⟨false, [], 0⟩
def qOV : Val := .mk 1 0 dc0 [] [] [] 0
theorem Val.encL_map : ∀ l, Val.encL l = l.map Val.enc
 | [] => by simp only [Val.encL, List.map_nil]
 | v :: vs => by simp only [Val.encL, List.map_cons, Val.encL_map vs]
@[simp] theorem Val.enc_def (v : Val) : v.enc = .agg [.int .i64 v.kind, .int .u64 v.mask, .bool v.num.neg, .str v.num.digits, .int .i64 v.num.scale, .str v.text, .sl 1 (v.keys.map PD.str), .sl 9 (v.kids.map Val.enc), .int .i64 v.code] := by
 cases v; simp only [Val.enc, Val.encL_map, Val.kind, Val.mask, Val.num, Val.text, Val.keys, Val.kids, Val.code]
mutual
def Val.sz : Val → Nat
 | .mk _ _ _ _ _ vs _ => 1 + Val.szL vs
def Val.szL : List Val → Nat
 | [] => 0
 | v :: vs => Val.sz v + Val.szL vs
end
theorem Val.szL_mem {k : Val} : ∀ {l : List Val}, k ∈ l → Val.sz k ≤ Val.szL l
 | v :: vs, h => by
  simp only [Val.szL]
  rcases List.mem_cons.1 h with rfl | h
  ·omega
  ·have := Val.szL_mem h; omega
theorem Val.sz_kid {v k : Val} (h : k ∈ v.kids) : Val.sz k < Val.sz v := by
 cases v; simp only [Val.kids] at h; simp only [Val.sz]; have := Val.szL_mem h; omega
theorem Val.induct {p : Val → Prop} (h : ∀ v, (∀ k ∈ v.kids, p k) → p v) (v : Val) : p v := by
 have key : ∀ n v, Val.sz v = n → p v := by
  intro n
  induction n using Nat.strongRecOn with
  | _ n ih => intro v hv; exact h v fun k hk => ih _ (hv ▸ Val.sz_kid hk) k rfl
 exact key _ v rfl
theorem Val.ext {a b : Val} (h1 : a.kind = b.kind) (h2 : a.mask = b.mask) (h3 : a.num = b.num) (h4 : a.text = b.text) (h5 : a.keys = b.keys) (h6 : a.kids = b.kids) (h7 : a.code = b.code) : a = b := by
 cases a; cases b; simp_all [Val.kind, Val.mask, Val.num, Val.text, Val.keys, Val.kids, Val.code]
theorem Dc.ext' {a b : Dc} (h1 : a.neg = b.neg) (h2 : a.digits = b.digits) (h3 : a.scale = b.scale) : a = b := by cases a; cases b; simp_all
end Go.Proofs.YtdojfdaglbphlaaGreatDoor
namespace Go.Proofs.YtdojfdaglbphlaaGreatDoor.Sy
open Go
section
variable {P : Program} {T : Tab} {G : qV} {Q : Exit → St → Prop} {st st' : St}
theorem Turned.refl (w : World) (b : Nat) : Turned w w b := ⟨rfl, rfl, rfl, rfl, fun _ _ => rfl⟩
theorem Rel.beginBox {c : Ctx} {M : zB} {μ : Mu} {st : St} {tmps : Array Value} {w : World} (r : Rel c M μ st tmps w) {id k j : Nat} {e : TypeId} {cells : List V} (hb : zV id st.H = some (.vars e cells)) (hj : cells[j]? = some .nilsl)
  (hf : st.fresh k = true) (e' : TypeId) (sz : Nat) : ∃ μ', Rel c M μ' { st with H := zW id (.vars e (cells.set j (.ms k))) ((k, .row e' sz []) :: st.H) } tmps w := by
 have hm := zD hb
 have hk : qO id st.H = true := qF.2 ⟨_, hm⟩
 have hne : id ≠ k := by
  rintro rfl
  have := (St.fresh_spec hf).2.2.2
  rw [hk] at this; cases this
 have r1 := r.adopt (l := ⟨none, .slice none 0 0⟩) hf (fun b hb => by cases hb) (bx := .row e' sz []) (.rowN (by rw [qS]) (by rw [qS]))
 have hbx := r1.box id _ (List.mem_cons_of_mem _ hm)
 cases hbx with
 | @vars _ _ b arr h0 hh hs ho hc =>
 refine ⟨_, r1.write (id := id) (b := b) (w' := w) (bx := .vars e (cells.set j (.ms k))) (by simp [qO, hk]) h0 (Turned.refl w b) (.vars h0 hh (by simpa using hs) ho fun i u x hu hx => ?_)⟩
 rw [List.getElem?_set] at hx
 split at hx
 ·rename_i hji
  subst hji
  split at hx
  ·cases hx
   have := hc j u .nilsl hu hj
   cases this
   exact .ms (by rw [qS]) rfl
  ·cases hx
 ·exact hc i u x hu hx
theorem AW.beginBox {c : Code} (id k j : Nat) (e' : TypeId) (sz : Nat) {e : TypeId} {cells : List V} (hb : zV id st.H = some (.vars e cells)) (hj : cells[j]? = some .nilsl) (hf : st.fresh k = true)
  (h : ({ st with H := zW id (.vars e (cells.set j (.ms k))) ((k, .row e' sz []) :: st.H) } : St) = st') (k : AW P G c Q st') : AW P G c Q st := fun x M μ tmps w hg r => by
 obtain ⟨μ', r'⟩ := r.beginBox hb hj hf e' sz
 exact k x M μ' tmps w hg (h ▸ r')
theorem qC.beginBox {ops : Array Oper} {l : List Oper} {orc : List PD} (id k j : Nat) (e' : TypeId) (sz : Nat) {e : TypeId} {cells : List V} (hb : zV id st.H = some (.vars e cells)) (hj : cells[j]? = some .nilsl) (hf : st.fresh k = true)
  (h : ({ st with H := zW id (.vars e (cells.set j (.ms k))) ((k, .row e' sz []) :: st.H) } : St) = st') (k : qC P G ops Q l st' orc) : qC P G ops Q l st orc := fun x M μ tmps w hg r => by
 obtain ⟨μ', r'⟩ := r.beginBox hb hj hf e' sz
 exact k x M μ' tmps w hg (h ▸ r')
theorem AW.pinsTo {c : Code} (ps : List Nat) (hs : ∀ i ∈ ps, i ∈ st.pins) (h : ({ st with pins := ps } : St) = st') (k : AW P G c Q st') : AW P G c Q st := fun x M μ tmps w hg r =>
 k x M μ tmps w hg (h ▸ ⟨r.mem, r.ext, r.old, r.slots, fun i hi => r.pins i (hs i hi), r.box, r.nodup, r.inj, r.own, r.size, r.below⟩)
theorem qC.stepKIf (ks : List Nat) (d : Nat) {orc : List PD} {ops : Array Oper} {o : Oper} {rest : List Oper} {x : V} {st1 : St} {j : Nat} {pol : Bool} (hgd : o.guard = some (j, pol)) (hd : (ops[j]?).bind (·.dst) = some d)
  (h : zC P G o st x st1) (hb : decide (d < st.tmps.length) = true ∧ V.guards pol (st.tmps.getD d .dead) = some true) (hk : (st1.put o.dst (.when true x)).keep ks = st') (k : qC P G ops Q rest st' orc) : qC P G ops Q (o :: rest) st orc :=
 zE.stepIfT hgd hd (of_decide_eq_true hb.1) hb.2 h (zE.keep ks (hk ▸ k))
theorem AW.fillE {c : Code} (id : Nat) (ns : List (Option Nat)) (h : st.fill id ns = st') (k : AW P G c Q st') : AW P G c Q st := fun x M μ tmps w hg r => k x M μ tmps w hg (h ▸ r.fill id ns)
end
set_option linter.unusedSimpArgs false
section
variable {P : Program} {T : Tab} {G : qV} {Q : Exit → St → Prop} {st st' : St}
def qBA (ks : List (List UInt8)) (vs : List V) (s : List UInt8) (v : V) : List V := if s ∈ ks then vs.set (ks.idxOf s) v else vs ++ [v]
theorem qXU (hT : TOK P T) {o : Oper} {t el : TypeId} {x y : Operand} (ho : o.op = .slice t x none (some y) none) (ht : wA T t = some (.sl el)) {p q : Prop} {id : Nat} {kd : IntKind} {z : Int} (n : Nat)
  (h1 : st.arg G x = (p, .ms id)) (hp : p) (h2 : st.arg G y = (q, .p (.int kd z))) (hq : q) {e sz : Nat} {es : List PD} {ti : TI} (hti : T el = some ti) (hb : zV id st.H = some (.row e sz es)) (hn : n ≤ es.length) (hz : z = (n : Int)) :
  zC P G o st (.ms id) { st.kill id with H := (id, .row e sz (es.take n)) :: (st.kill id).H } := by
 subst hz
 intro c M μ tmps w hg r
 have hd := hT.sl ht
 obtain ⟨i, de, hi', _, _, hsz, _⟩ := hT.get hti
 have hso : (sizeOf el).run P w = .ok ti.size w := by simp [sizeOf, typeInfo, hi', hsz]
 have e1 := qE hg r h1 hp
 have e2 := (qE hg r h2 hq).p_inv
 generalize hu1 : Act.eval ⟨tmps, []⟩ x = u1 at e1
 generalize hu2 : Act.eval ⟨tmps, []⟩ y = u2 at e2
 cases e1 with
 | ms hval hone =>
 cases e2 with
 | int _ _ =>
 have hm := zD hb
 have hk : qO id st.H = true := qF.2 ⟨_, hm⟩
 have rk := r.kill id
 have hbx := r.box id _ hm
 cases hbx with
 | rowN h0 hv =>
  rw [hv] at hval
  subst hval
  obtain rfl : n = 0 := by simpa using hn
  have hbd := wO (P := P) (isSlice := true) (len := 0) (cap := 0) (lo := none) (hi := some (.int kd 0)) (l := 0) (h := 0) (.inl ⟨rfl, rfl⟩) (.inr ⟨kd, rfl⟩) (by omega) (by omega) (by omega) w
  have er : (execOp (Act.eval ⟨tmps, []⟩) o).run P w = .ok (.value (.slice none 0 0)) w := by
   simp at hbd
   simp [execOp, ho, hu1, hu2, Instr.sliceAt, Instr.slice, run_underlying hd, hbd, hso]
  rw [er]
  exact ⟨M, upd μ id ⟨none, .slice none 0 0⟩, rk.adopt (l := ⟨none, .slice none 0 0⟩) (qBF st id) (fun b hb => by cases hb) (.rowN (by rw [qS]) (by rw [qS])), .ms (by rw [qS]) rfl⟩
 | @row _ _ _ b cap arr h0 hv hh has hlc hcm hone' hz hcc =>
  rw [hv] at hval
  subst hval
  have hbd := wO (P := P) (isSlice := true) (len := es.length) (cap := cap) (lo := none) (hi := some (.int kd n)) (l := 0) (h := n) (.inl ⟨rfl, rfl⟩) (.inr ⟨kd, rfl⟩) (by omega) (by omega) (by omega) w
  have er : (execOp (Act.eval ⟨tmps, []⟩) o).run P w = .ok (.value (.slice (some ⟨b, 0, none⟩) n cap)) w := by
   simp at hbd
   have ha : (if cap = 0 then (some (⟨b, 0, none⟩ : Addr)) else (some (⟨b, 0, none⟩ : Addr)).map (·.add (0 * ti.size))) = some ⟨b, 0, none⟩ := by
    split
    ·rfl
    ·simp [Addr.add]
   simp [execOp, ho, hu1, hu2, Instr.sliceAt, Instr.slice, run_underlying hd, hbd, hso]
   try simpa using ha
  rw [er]
  have hown := r.own id b hk h0
  refine ⟨M, upd μ id ⟨some b, .slice (some ⟨b, 0, none⟩) n cap⟩, rk.adopt (l := ⟨some b, .slice (some ⟨b, 0, none⟩) n cap⟩) (qBF st id) (fun b' hb' => ?_) (.row (cap := cap) (by rw [qS]) (by rw [qS]; simp [Nat.min_eq_left hn]) hh has (by simp; omega) hcm hone' (fun i e' he => hz i e' ?_) fun i e' j d u he hd hu => hcc i e' j d u ?_ hd hu), .ms (by rw [qS]) rfl⟩
  ·cases hb'; exact ⟨hown.1, hown.2.1, hown.2.2, qPH r hk h0⟩
  ·rw [List.getElem?_take] at he; split at he
   ·exact he
   ·cases he
  ·rw [List.getElem?_take] at he; split at he
   ·exact he
   ·cases he
theorem qFC {id : Nat} {b : Box} : ∀ {H : List (Nat × Box)}, zV id H = some b → zW id b H = H
 | [], _ => rfl
 | (i, c) :: r, h => by
  simp only [zV] at h
  simp only [zW]
  split at h
  ·rename_i e; cases h; rw [if_pos e]
  ·rename_i e; rw [if_neg e, qFC h]
theorem qRR (z : Array Value) (n : Nat) : Builtin.zeroCells z n = madeCells z (n * z.size) := rfl
theorem qC.clearFrom {ops : Array Oper} {o1 o2 : Oper} {rest : List Oper} {orc : List PD} (hT : TOK P T) (ks : List Nat) {t el d : Nat} {x y : Operand} {p q : Prop} {id : Nat} {kd : IntKind} {z : Int} (n : Nat) (ho1 : o1.op = .slice t x (some y) none none) (hd1 : o1.dst = some d) (hg1 : o1.guard = none)
  (ho2 : o2.op = .call { callee := .builtin .clear, args := #[.tmp d], argTypes := #[t] }) (hd2 : o2.dst = none) (hg2 : o2.guard = none) (ht : wA T t = some (.sl el)) {ti : TI} (hti : T el = some ti) {zs : List V} (hzs : ti.zero.cells = some zs) (hzl : zs.length = ti.size) {e0 : PD} (hfit : V.fitsL [] zs e0.cells)
  (h1 : st.arg G x = (p, .ms id)) (hp : p) (h2 : st.arg G y = (q, .p (.int kd z))) (hq : q) {e sz : Nat} {es : List PD} (hb : zV id st.H = some (.row e sz es)) (hsz : sz = ti.size) (hn : n ≤ es.length) (hz : z = (n : Int)) (hdl : d < st.tmps.length)
  (k : qC P G ops Q rest ((({ st with H := zW id (.row e sz (es.take n ++ List.replicate (es.length - n) e0)) st.H } : St).put (some d) .dead).keep ks) orc) : qC P G ops Q (o1 :: o2 :: rest) st orc := by
 subst hz; subst hsz
 intro c M μ tmps w hg r
 have hd := hT.sl ht
 obtain ⟨i, de, hi', _, _, hszi, _⟩ := hT.get hti
 have hso : (sizeOf el).run P w = .ok ti.size w := by simp [sizeOf, typeInfo, hi', hszi]
 have e1 := qE hg r h1 hp
 have e2 := (qE hg r h2 hq).p_inv
 generalize hu1 : Act.eval ⟨tmps, []⟩ x = u1 at e1
 generalize hu2 : Act.eval ⟨tmps, []⟩ y = u2 at e2
 have hts : d < tmps.size := by rw [r.slots.1]; exact hdl
 cases e1 with
 | ms hval hone =>
 cases e2 with
 | int _ _ =>
 have hm := zD hb
 have hk : qO id st.H = true := qF.2 ⟨_, hm⟩
 have key : ∀ (v1 : Value) (w1 : World), (execOp (Act.eval ⟨tmps, []⟩) o1).run P w = .ok (.value v1) w → (Builtin.clear_ #[t] o2.type #[v1]).run P w = .ok (.tuple #[]) w1 →
   Rel c M μ { st with H := zW id (.row e ti.size (es.take n ++ List.replicate (es.length - n) e0)) st.H } tmps w1 → wpList P ops (zOO c Q) (o1 :: o2 :: rest) ⟨tmps, []⟩ w := by
  intro v1 w1 er1 er2 r1
  refine wpList_plain hg1 fun K hK => jP (next := fun v w' => v = v1 ∧ w' = w) (by rw [er1]; exact ⟨rfl, rfl⟩) ?_
  rintro u w' ⟨rfl, rfl⟩
  apply hK
  rw [Act.put_tmps, hd1]
  simp only
  have hev : Act.eval ⟨tmps.setIfInBounds d u, []⟩ (.tmp d) = u := by simp [Act.eval, hts]
  have er : (execOp (Act.eval ⟨tmps.setIfInBounds d u, []⟩) o2).run P w' = .ok (.value (.tuple #[])) w1 := by
   simp [execOp, ho2, resolve, invoke, builtin, hev, er2]
  refine wpList_plain hg2 fun K hK => jP (next := fun v w'' => v = .tuple #[] ∧ w'' = w1) (by rw [er]; exact ⟨rfl, rfl⟩) ?_
  rintro u2 w'' ⟨rfl, rfl⟩
  apply hK
  rw [Act.put_tmps, hd2]
  simp only
  exact zE.keep ks k c M μ _ _ hg (r1.put (.dead) (some d))
 have hbx := r.box id _ hm
 cases hbx with
 | rowN h0 hv =>
  rw [hv] at hval
  subst hval
  obtain rfl : n = 0 := by simpa using hn
  have hbd := wO (P := P) (isSlice := true) (len := 0) (cap := 0) (lo := some (.int kd 0)) (hi := none) (l := 0) (h := 0) (.inr ⟨kd, rfl⟩) (.inl ⟨rfl, rfl⟩) (by omega) (by omega) (by omega) w
  refine key (.slice none 0 0) w ?_ (by simp [Builtin.clear_, run_underlying hd]) ?_
  ·simp at hbd
   simp [execOp, ho1, hu1, hu2, Instr.sliceAt, Instr.slice, run_underlying hd, hbd, hso]
  ·rw [show (List.take 0 ([] : List PD) ++ List.replicate (([] : List PD).length - 0) e0) = [] by rfl]
   have hsame : zW id (.row e ti.size []) st.H = st.H := qFC hb
   rw [hsame]
   exact r
 | @row _ _ _ b cap arr h0 hv hh has hlc hcm hone' hz hcc =>
  rw [hv] at hval
  subst hval
  have hbd := wO (P := P) (isSlice := true) (len := es.length) (cap := cap) (lo := some (.int kd n)) (hi := none) (l := n) (h := es.length) (.inr ⟨kd, rfl⟩) (.inl ⟨rfl, rfl⟩) (by omega) (by omega) (by omega) w
  obtain ⟨zv, hzr, hzc, _⟩ := qCP hT hti hzs M μ w
  by_cases hne : n = es.length
  ·subst hne
   refine key (.slice (if cap = es.length then some ⟨b, 0, none⟩ else (some (⟨b, 0, none⟩ : Addr)).map (·.add (es.length * ti.size))) 0 (cap - es.length)) w ?_ ?_ ?_
   ·simp at hbd
    simp [execOp, ho1, hu1, hu2, Instr.sliceAt, Instr.slice, run_underlying hd, hbd, hso]
   ·split <;> simp [Builtin.clear_, run_underlying hd]
   ·rw [List.take_length, Nat.sub_self, List.replicate_zero, List.append_nil]
    have := r.write (w' := w) (bx := .row e ti.size es) hk h0 (Turned.refl w b) (.row h0 hv hh has hlc hcm hone' hz hcc)
    exact this
  ·have hlt : n < es.length := by omega
   have hzs' : zv.cells.size = ti.size := by rw [hzc.size, hzl]
   have hmr := qPE hzc hzl hfit (es.length - n)
   have hsum : n * ti.size + (es.length - n) * ti.size = es.length * ti.size := by rw [← Nat.add_mul]; congr 1; omega
   have hcap : es.length * ti.size ≤ cap * ti.size := Nat.mul_le_mul_right _ hlc
   have hml : (madeCells zv.cells ((es.length - n) * ti.size)).toList.length = (es.length - n) * ti.size := by rw [hmr.len, List.length_replicate]
   have hst := run_storeCells_at P b (n * ti.size) e (madeCells zv.cells ((es.length - n) * ti.size)).toList 0 arr w hh (by simp only [Nat.add_zero, hml]; omega) hmr.one
   simp only [Nat.add_zero] at hst
   generalize hnew : (arr.toList.take (n * ti.size) ++ (madeCells zv.cells ((es.length - n) * ti.size)).toList ++ arr.toList.drop (n * ti.size + (madeCells zv.cells ((es.length - n) * ti.size)).toList.length)).toArray = arr' at hst
   have hrow : RowOf M ti.size es (arr.toList.take (es.length * ti.size)) := by
    rcases (r.box id _ hm).cells with ⟨rfl, h, _⟩ | ⟨b', cap', arr2, g0, gv, gh, _, _, _, _, gr⟩
    ·rw [h0] at h; cases h
    ·rw [h0] at g0; cases g0
     rw [hh] at gh; cases gh
     exact gr
   refine key (.slice (some ⟨b, n * ti.size, none⟩) (es.length - n) (cap - n)) (w.setRow b arr') ?_ ?_ ?_
   ·simp at hbd
    have hne2 : ¬ cap = n := by omega
    have hadd : (⟨b, 0, none⟩ : Addr).add (n * ti.size) = ⟨b, n * ti.size, none⟩ := by rw [xI]; simp
    simp [execOp, ho1, hu1, hu2, Instr.sliceAt, Instr.slice, run_underlying hd, hbd, hso, hne2, hadd]
   ·obtain ⟨m, hm'⟩ : ∃ m, es.length - n = m + 1 := ⟨es.length - n - 1, by omega⟩
    rw [hm'] at hst ⊢
    have hzm := qRR zv.cells (m + 1)
    rw [hzs'] at hzm
    simp only [Builtin.clear_, Sem.run_bind]
    simp [run_underlying hd, hzr, hzm, hst, Result.andThen]
   ·refine r.write (w' := w.setRow b arr') hk h0 (xL w b _) ?_
    have hsz' : arr'.size = arr.size := by rw [← hnew]; simp [hml]; omega
    have hR : RowOf M ti.size (es.take n ++ List.replicate (es.length - n) e0) (arr.toList.take (n * ti.size) ++ (madeCells zv.cells ((es.length - n) * ti.size)).toList) := by
     refine RowOf.append ?_ hmr
     refine ⟨by rw [List.length_take, List.length_take, Nat.min_eq_left hn, Nat.min_eq_left (by rw [Array.length_toList, has]; exact Nat.mul_le_mul_right _ (by omega))], fun u hu => hrow.one u ?_, fun j e' he => hrow.elem j e' ?_, fun j e' l d' u he hd' hu => hrow.get j e' l d' u ?_ hd' ?_⟩
     ·have : arr.toList.take (n * ti.size) = (arr.toList.take (es.length * ti.size)).take (n * ti.size) := by rw [List.take_take, Nat.min_eq_left (by omega)]
      rw [this] at hu; exact List.mem_of_mem_take hu
     ·rw [List.getElem?_take] at he; split at he
      ·exact he
      ·cases he
     ·rw [List.getElem?_take] at he; split at he
      ·exact he
      ·cases he
     ·rw [List.getElem?_take] at hu ⊢
      split at hu
      ·rw [if_pos (by omega)]; exact hu
      ·cases hu
    have hll : (es.take n ++ List.replicate (es.length - n) e0).length = es.length := by simp; omega
    refine hR.box (cap := cap) h0 (by rw [hll]; exact hv) (setRow_heap w b arr _ e (0, 0) hh) (by rw [hsz']; exact has) (by rw [hll]; exact hlc) hcm (fun j u hu => ?_) ?_
    ·rw [← hnew, List.getElem?_toArray] at hu
     have hmem := List.mem_of_getElem? hu
     rw [List.append_assoc, List.mem_append, List.mem_append] at hmem
     rcases hmem with h | h | h
     ·obtain ⟨j', hj'⟩ := List.mem_iff_getElem?.1 (List.mem_of_mem_take h)
      exact hone' j' u (by simpa using hj')
     ·exact hmr.one u h
     ·obtain ⟨j', hj'⟩ := List.mem_iff_getElem?.1 (List.mem_of_mem_drop h)
      exact hone' j' u (by simpa using hj')
    ·rw [← hnew, hll]
     simp only [List.append_assoc]
     rw [← List.append_assoc, List.take_append_of_le_length (by simp [hml]; omega), List.take_of_length_le (by simp [hml]; omega)]
end
end Go.Proofs.YtdojfdaglbphlaaGreatDoor.Sy
namespace Go.Proofs.YtdojfdaglbphlaaGreatDoor
open Sy Go
set_option maxRecDepth 100000
set_option maxHeartbeats 4000000
set_option linter.unusedSimpArgs false
set_option linter.unusedVariables false
variable {G : qV}
theorem zJH (ks : List (List UInt8)) (hn : ks.length ≤ 1000000) : AX Tryz.prog G 187 [.p (.sl 1 (ks.map PD.str))] [] (.ms 905) [] [(905, .row 9 1 (ks.map PD.str))] := by
 refine AX.introU tok 900 Tryz.func187 (by kernel_rfl) rfl rfl ?_
 simp only [Tryz.f187, qI, List.map_cons, List.map_nil]
 refine rgn [] [[0]] ?_
 refine op1 tok ?_
 refine qA ?_
 refine AW.seq ?_
 refine rgn [] [[]] ?_
 refine op1 tok ?_
 refine qX ?_
 refine qC.nilEq tok [0, 4] rfl rfl (by conv => lhs; simp) trivial rfl ?_
 intro bn1 hbn1
 refine qC.same (by conv => lhs; simp) ?_
 refine qC.nil ?_
 refine cnd ?_ ?_
 ·intro h4
  try simp at h4
  have hks : ks = [] := by
   by_cases h : ks = []
   ·exact h
   ·rw [hbn1 (by simpa using h)] at h4; cases h4
  subst hks
  refine rgn [] [[]] ?_
  refine op1 tok ?_
  refine qA ?_
  refine AW.beginE 2 905 9 1 (by simp) (by simp) (by conv => lhs; simp) ?_
  exact AW.ret zU
 ·intro h4
  try simp at h4
  refine AW.skip ?_
  refine rgn [] [[], [], [], [2]] ?_
  iterate 4 refine op1 tok ?_
  refine qA ?_
  exact AW.ret zU
theorem qUI (ks : List (List UInt8)) (hn : ks.length ≤ 1000000) : AR Tryz.prog G 187 [.sl 1 (ks.map PD.str)] 9 1 (ks.map PD.str) := AR.of_AX (k := 905) (by simpa using zJH ks hn)
theorem zJF (vs : List Val) (hn : vs.length ≤ 1000000) : AX Tryz.prog G 188 [.p (.sl 9 (vs.map Val.enc))] [] (.ms 905) [] [(905, .row 31 9 (vs.map Val.enc))] := by
 refine AX.introU tok 900 Tryz.func188 (by kernel_rfl) rfl rfl ?_
 simp only [Tryz.f188, qI, List.map_cons, List.map_nil]
 refine rgn [] [[0]] ?_
 refine op1 tok ?_
 refine qA ?_
 refine AW.seq ?_
 refine rgn [] [[]] ?_
 refine op1 tok ?_
 refine qX ?_
 refine qC.nilEq tok [0, 4] rfl rfl (by conv => lhs; simp) trivial rfl ?_
 intro bn1 hbn1
 refine qC.same (by conv => lhs; simp) ?_
 refine qC.nil ?_
 refine cnd ?_ ?_
 ·intro h4
  try simp at h4
  have hks : vs = [] := by
   by_cases h : vs = []
   ·exact h
   ·rw [hbn1 (by simpa using h)] at h4; cases h4
  subst hks
  refine rgn [] [[]] ?_
  refine op1 tok ?_
  refine qA ?_
  refine AW.beginE 2 905 31 9 (by simp) (by simp) (by conv => lhs; simp) ?_
  exact AW.ret zU
 ·intro h4
  try simp at h4
  refine AW.skip ?_
  refine rgn [] [[], [], [], [2]] ?_
  iterate 4 refine op1 tok ?_
  refine qA ?_
  exact AW.ret zU
theorem qUG (vs : List Val) (hn : vs.length ≤ 1000000) : AR Tryz.prog G 188 [.sl 9 (vs.map Val.enc)] 31 9 (vs.map Val.enc) := AR.of_AX (k := 905) (by simpa using zJF vs hn)
theorem qQA {s : List UInt8} {pos : Nat} (h : pos < s.length) : 1 ≤ (qBG s pos).2 := Lib.decode_width_pos _ _ (by simpa [ByteArray.size] using h)
theorem qEG {s : List UInt8} {pos : Nat} (h : pos < s.length) (ha : (s.getD pos 0).toNat < 128) : qBG s pos = ((s.getD pos 0).toNat, 1) := by
 have hs : pos < (⟨s.toArray⟩ : ByteArray).size := by simpa [ByteArray.size] using h
 have e : (⟨s.toArray⟩ : ByteArray)[pos]'hs = s.getD pos 0 := by simp [List.getD_eq_getElem?_getD, h]; rfl
 unfold qBG
 rw [decode_ascii _ _ hs (by rw [e]; exact ha), e]
theorem zNM {s : List UInt8} {pos : Nat} (h : pos < s.length) (ha : 128 ≤ (s.getD pos 0).toNat) : 128 ≤ (qBG s pos).1 := by
 have e : ((⟨s.toArray⟩ : ByteArray).get! (pos + 0)).toNat = (s.getD pos 0).toNat := by
  simp [ByteArray.get!, List.getD_eq_getElem?_getD, h]
 unfold qBG Utf8.decode
 simp only [e]
 rw [if_neg (by omega)]
 split
 ·split
  ·simp only [ge_iff_le] at *; omega
  ·simp [Utf8.runeError]
 ·split
  ·split
   ·rename_i hc; simp only [ge_iff_le, Bool.and_eq_true, decide_eq_true_eq] at hc; omega
   ·simp [Utf8.runeError]
  ·split
   ·split
    ·rename_i hc; simp only [ge_iff_le, Bool.and_eq_true, decide_eq_true_eq] at hc; omega
    ·simp [Utf8.runeError]
   ·simp [Utf8.runeError]
def qPO (p : Int → Bool) (s : List UInt8) : Nat → Nat → Int
 | 0, _ => -1
 | f + 1, pos => if pos < s.length then (if p (qBG s pos).1 then (pos : Int) else qPO p s f (pos + (qBG s pos).2)) else -1
def qCG (p : Int → Bool) (s : List UInt8) : Int := qPO p s (s.length + 1) 0
theorem qTO (p : Int → Bool) (s : List UInt8) : ∀ (f g pos : Nat), s.length < pos + f → s.length < pos + g → qPO p s f pos = qPO p s g pos
 | 0, 0, _, _, _ => rfl
 | 0, g + 1, pos, h, _ => by simp only [qPO]; rw [if_neg (by omega)]
 | f + 1, 0, pos, _, h => by simp only [qPO]; rw [if_neg (by omega)]
 | f + 1, g + 1, pos, hf, hg => by
  simp only [qPO]
  by_cases h : pos < s.length
  ·rw [if_pos h, if_pos h]
   split
   ·rfl
   ·have := qQA h
    exact qTO p s f g _ (by omega) (by omega)
  ·rw [if_neg h, if_neg h]
def qEQ (p : Int → Bool) (s : List UInt8) (pos : Nat) : Int := qPO p s (s.length + 1 - pos) pos
theorem qTP {p : Int → Bool} {s : List UInt8} {pos : Nat} (h : ¬ pos < s.length) : qEQ p s pos = -1 := by
 unfold qEQ; cases hf : s.length + 1 - pos with
 | zero => rfl
 | succ f => simp only [qPO]; rw [if_neg h]
theorem qKS {p : Int → Bool} {s : List UInt8} {pos : Nat} (h : pos < s.length) (hp : p (qBG s pos).1 = true) : qEQ p s pos = pos := by
 unfold qEQ; rw [show s.length + 1 - pos = (s.length - pos) + 1 by omega]; simp only [qPO]; rw [if_pos h, if_pos hp]
theorem qPP {p : Int → Bool} {s : List UInt8} {pos : Nat} (h : pos < s.length) (hp : p (qBG s pos).1 = false) : qEQ p s pos = qEQ p s (pos + (qBG s pos).2) := by
 unfold qEQ; rw [show s.length + 1 - pos = (s.length - pos) + 1 by omega]; simp only [qPO]
 have := qQA h
 rw [if_pos h, if_neg (by simp [hp])]; exact qTO p s _ _ _ (by omega) (by omega)
theorem qTN (p : Int → Bool) (s : List UInt8) : qCG p s = qEQ p s 0 := by simp [qCG, qEQ]
theorem qMD {p : Int → Bool} (hbig : ∀ n : Int, 128 ≤ n → p n = true) (s : List UInt8) : ∀ (f pos : Nat), f = s.length - pos → pos ≤ s.length → qEQ p s pos = if (s.drop pos).all (fun b => !p b.toNat) then -1 else ((pos + ((s.drop pos).takeWhile fun b => !p b.toNat).length : Nat) : Int)
 | 0, pos, hf, hp => by
  rw [qTP (by omega), List.drop_eq_nil_of_le (by omega)]; simp
 | f + 1, pos, hf, hp => by
  have hlt : pos < s.length := by omega
  have hd : s.drop pos = s.getD pos 0 :: s.drop (pos + 1) := by
   rw [List.drop_eq_getElem_cons hlt]; congr 1; simp [List.getD_eq_getElem?_getD, hlt]
  rw [hd]
  have hda0 := fun h => qEG (s := s) (pos := pos) hlt h
  have hdb0 := fun h => zNM (s := s) (pos := pos) hlt h
  clear hd
  generalize s.getD pos 0 = c at *
  by_cases ha : c.toNat < 128
  ·have hda := hda0 ha
   cases hpb : p ((c.toNat : Nat) : Int) with
   | true => rw [qKS hlt (by rw [hda]; exact hpb)]; simp [hpb]
   | false =>
    rw [qPP hlt (by rw [hda]; exact hpb), hda, qMD hbig s f (pos + 1) (by omega) (by omega)]
    simp only [List.all_cons, hpb, Bool.not_false, Bool.true_and, List.takeWhile_cons, if_true, List.length_cons]
    split <;> first | rfl | (congr 1; omega)
  ·have hb := hdb0 (by omega)
   rw [qKS hlt (hbig _ (by omega))]
   have : p ((c.toNat : Nat) : Int) = true := hbig _ (by omega)
   simp [this]
theorem qWL {p : Int → Bool} (hbig : ∀ n : Int, 128 ≤ n → p n = true) (s : List UInt8) : qCG p s = if s.all (fun b => !p b.toNat) then -1 else (((s.takeWhile fun b => !p b.toNat).length : Nat) : Int) := by
 rw [qTN, qMD hbig s _ 0 rfl (by omega)]; simp
theorem qWK (s : List UInt8) (g : FuncId) (p : Int → Bool) (hg : ∀ n : Int, AFn Tryz.prog G g [.int .i32 n] (.bool (p n))) : AFn Tryz.prog G 248 [.str s, .fn g, .bool true] (.int .i64 (qCG p s)) := by
 refine AFn.introU tok Tryz.func248 (by kernel_rfl) rfl rfl ?_
 simp only [Tryz.f248, qI, List.map_cons, List.map_nil]
 refine rgn [] [[0, 1, 2]] ?_
 refine op1 tok ?_
 refine qA ?_
 refine AW.seq ?_
 refine rgn [] [[], [1, 2, 10]] ?_
 iterate 2 refine op1 tok ?_
 refine qA ?_
 refine AW.block ?_
 refine AW.loop (α := Nat) (fun pos => qEQ p s pos = qCG p s) (fun pos => ⟨qY 21 [(1, .p (.fn g)), (2, .p (.bool true)), (10, .it 10)], [], [(10, .iter s pos)], 0⟩) (fun pos => s.length - pos) (0) (qTN p s).symm ⟨qB (by simp), rfl, by simp, by simp⟩ ?_
 rintro pos hi
 have hpos : pos < s.length → 1 ≤ (qBG s pos).2 := qQA
 by_cases hs2 : pos < s.length
 ·
  refine rgn [.bool true] [[], []] ?_
  iterate 2 refine op1 tok ?_ (hv := by first | with_reducible exact True.intro | (simpa using hs2; done) | omega | simp | (simp +contextual; omega))
  refine qA ?_
  refine AW.seq ?_
  refine cnd ?_ ?_
  ·intro h12
   try simp at h12
   refine AW.skip ?_
   refine AW.block ?_
   refine rgn [] [[], [], [], [1, 2, 7, 8, 10]] ?_
   iterate 4 refine op1 tok ?_
   refine qA ?_
   refine rgn [.nilp, .bool (p (qBG s pos).1)] [[], [], [], [], [1, 2, 7, 10, 19]] ?_
   iterate 5 refine op1 tok ?_ (hv := by first | with_reducible exact True.intro | (exact hg _; done) | omega | simp | (simp +contextual; omega))
   refine qA ?_
   refine cnd ?_ ?_
   ·intro h19
    try simp at h19
    have hI : qCG p s = pos := by rw [← hi, qKS hs2 (by simpa using h19)]
    refine rgn [] [[], [6]] ?_
    iterate 2 refine op1 tok ?_
    refine qA ?_
    exact AW.ret (qJ (k := by simp [hI]))
   ·intro h19
    try simp at h19
    have hnx : qEQ p s (pos + (qBG s pos).2) = qCG p s := by rw [← qPP hs2 (by simpa using h19)]; exact hi
    refine AW.skip ?_
    exact ⟨pos + (qBG s pos).2, hnx, by have := hpos hs2; omega, qB (by simp), rfl, by simp, by simp⟩
  ·intro h12
   try simp at h12
 ·
  refine rgn [.bool false] [[], []] ?_
  iterate 2 refine op1 tok ?_ (hv := by first | with_reducible exact True.intro | (simpa using hs2; done) | omega | simp | (simp +contextual; omega))
  refine qA ?_
  refine AW.seq ?_
  refine cnd ?_ ?_
  ·intro h12
   try simp at h12
  ·intro h12
   try simp at h12
   refine AW.exit ?_
   simp
   refine rgn [] [[]] ?_
   refine op1 tok ?_
   refine qA ?_
   exact AW.ret (qJ (k := by simp [← hi, qTP hs2]))
theorem qXL (s : List UInt8) (g : FuncId) (p : Int → Bool) (hg : ∀ n : Int, AFn Tryz.prog G g [.int .i32 n] (.bool (p n))) : AFn Tryz.prog G 226 [.str s, .fn g] (.int .i64 (qCG p s)) := by
 refine AFn.introU tok Tryz.func226 (by kernel_rfl) rfl rfl ?_
 simp only [Tryz.f226, qI, List.map_cons, List.map_nil]
 refine rgn [] [[0, 1]] ?_
 refine op1 tok ?_
 refine qA ?_
 refine rgn [.nilp, .int .i64 (qCG p s)] [[], [], [7], [4]] ?_
 iterate 4 refine op1 tok ?_ (hv := by first | with_reducible exact True.intro | (exact qWK s g p hg; done) | omega | simp | (simp +contextual; omega))
 refine qA ?_
 exact AW.ret qJ
def kS (n : Int) : Bool := decide (48 ≤ n) && decide (n ≤ 57)
def qG (b : UInt8) : Bool := kS b.toNat
def qGX (D : List UInt8) : Nat := D.foldl (fun n c => n * 10 + (c.toNat - 48)) 0
theorem zAN (n : Int) : AFn Tryz.prog G 52 [.int .u8 n] (.bool (kS n)) := by
 refine AFn.introU tok Tryz.func52 (by kernel_rfl) rfl rfl ?_
 simp only [Tryz.f52, qI, List.map_cons, List.map_nil]
 refine rgn [] [[0]] ?_
 refine op1 tok ?_
 refine qA ?_
 refine rgn [] [[], [], [], [], [5, 7], [], [2]] ?_
 iterate 3 refine op1 tok ?_
 iterate 2 refine op2 tok ?_
 iterate 2 refine op1 tok ?_
 refine qA ?_
 exact AW.ret (qJ (k := by simp [kS]))
def qT (s : List UInt8) (i : Nat) : Int := ((s.getD i 0).toNat : Int)
theorem jY {s : List UInt8} {i : Nat} (h : i < s.length) : s[i]? = some (s.getD i 0) := by simp [List.getD_eq_getElem?_getD, h]
def wK (s : List UInt8) (k : Nat) : Nat := ((s.drop k).takeWhile fun b => kS b.toNat).length
theorem qAJ {p : UInt8 → Bool} : ∀ {l : List UInt8} {n : Nat}, n ≤ (l.takeWhile p).length → ((n < (l.takeWhile p).length) ↔ ∃ b, l[n]? = some b ∧ p b = true)
 | [], n, h => by simp at h; subst h; simp
 | a :: l, n, h => by
  rw [List.takeWhile_cons] at h ⊢
  by_cases ha : p a = true
  ·rw [if_pos ha] at h ⊢
   cases n with
   | zero => simp [ha]
   | succ n => simpa using qAJ (l := l) (n := n) (by simpa using h)
  ·rw [if_neg ha] at h ⊢
   simp at h; subst h
   simp [ha]
theorem qVM {s : List UInt8} {k n : Nat} (h : n ≤ wK s k) : n < wK s k ↔ (k + n < s.length ∧ kS (qT s (k + n)) = true) := by
 unfold wK at h ⊢
 rw [qAJ h]
 constructor
 ·rintro ⟨b, hb, hd⟩
  rw [List.getElem?_drop] at hb
  have := (List.getElem?_eq_some_iff.1 hb).1
  refine ⟨this, ?_⟩
  rw [qT, List.getD_eq_getElem?_getD, hb]; exact hd
 ·rintro ⟨h1, h2⟩
  exact ⟨s.getD (k + n) 0, by rw [List.getElem?_drop]; exact jY h1, h2⟩
theorem qVN (s : List UInt8) (k : Nat) : wK s k ≤ s.length := by
 unfold wK
 have := (List.takeWhile_sublist (l := s.drop k) fun b : UInt8 => kS b.toNat).length_le
 simp at this; omega
theorem zSR (s : List UInt8) (k : Nat) (hs : s.length ≤ 1000000) (hk : k ≤ 1000000) : AFn Tryz.prog G 72 [.str s, .int .i64 k] (.int .i64 (wK s k)) := by
 refine AFn.introU tok Tryz.func72 (by kernel_rfl) rfl rfl ?_
 simp only [Tryz.f72, qI, List.map_cons, List.map_nil]
 refine rgn [] [[0, 1]] ?_
 refine op1 tok ?_
 refine qA ?_
 refine rgn [] [[]] ?_
 refine op1 tok ?_
 refine qA ?_
 refine AW.seq ?_
 refine AW.block ?_
 refine AW.loop (α := Nat) (fun n => n ≤ wK s k) (fun n => ⟨qY 23 [(0, .p (.str s)), (1, .p (.int .i64 k)), (5, .p (.int .i64 n))], [], [], 0⟩) (fun n => wK s k - n) (0) (by omega) ⟨qB (by simp), rfl, by simp, by simp⟩ ?_
 rintro n hn
 have hrl := qVN s k
 have hlt := qVM hn
 have hd := zAN (G := G) (qT s (k + n))
 have hix : k + n < s.length → s[((k : Int) + n).toNat]? = some (s.getD (k + n) 0) := fun h => by rw [show ((k : Int) + n).toNat = k + n by omega]; exact jY h
 refine AW.seq ?_
 refine rgn [.int .u8 (qT s (k + n)), .nilp, .bool (kS (qT s (k + n)))] [[], [], [], [], [], [0, 1, 5, 11], [], [], [], [], [], [0, 1, 5, 12, 17], [], [0, 1, 5, 19]] ?_
 iterate 7 refine op1 tok ?_ (hv := by first | with_reducible exact True.intro | (first | exact fun h => ⟨h, by omega, _, hix (by omega), rfl⟩ | simp [hd]; done) | omega | simp | (simp +contextual; omega))
 iterate 6 refine op2 tok ?_ (hv := by first | with_reducible exact True.intro | (first | exact fun h => ⟨h, by omega, _, hix (by omega), rfl⟩ | simp [hd]; done) | omega | simp | (simp +contextual; omega))
 refine op1 tok ?_ (hv := by first | with_reducible exact True.intro | (first | exact fun h => ⟨h, by omega, _, hix (by omega), rfl⟩ | simp [hd]; done) | omega | simp | (simp +contextual; omega))
 refine qA ?_
 refine cnd ?_ ?_
 ·intro h19
  try simp at h19
  have hlt' := hlt.2 ⟨by omega, h19.2⟩
  refine AW.skip ?_
  refine AW.block ?_
  refine rgz [] [[], [], [0, 1, 5]] ?_
  iterate 3 refine op1 tok ?_
  refine qA ?_
  exact ⟨n + 1, by omega, by omega, qB (by simp), rfl, by simp, by simp⟩
 ·intro h19
  try simp at h19
  have hge : n = wK s k := by
   refine Nat.le_antisymm hn (Nat.not_lt.1 fun h => ?_)
   have := hlt.1 h
   have := h19 (by omega)
   simp_all
  subst hge
  refine AW.exit ?_
  simp
  refine rgn [] [[], [4]] ?_
  iterate 2 refine op1 tok ?_
  refine qA ?_
  exact AW.ret qJ
def wD (n : Nat) : List UInt8 := List.replicate n 48
theorem qXQ (n : Int) (hn : n ≤ 1000000) : AFn Tryz.prog G 73 [.int .i64 n] (.str (wD n.toNat)) := by
 refine AFn.introU tok Tryz.func73 (by kernel_rfl) rfl rfl ?_
 simp only [Tryz.f73, qI, List.map_cons, List.map_nil]
 refine rgn [] [[0]] ?_
 refine op1 tok ?_
 refine qA ?_
 refine rgn [] [[]] ?_
 refine op1 tok ?_
 refine qA ?_
 refine AW.seq ?_
 refine rgn [] [[]] ?_
 refine op1 tok ?_
 refine qA ?_
 refine AW.block ?_
 refine AW.loop (α := Nat) (fun k => k ≤ n.toNat) (fun k => ⟨qY 13 [(0, .p (.int .i64 n)), (3, .p (.str (wD k))), (4, .p (.int .i64 k))], [], [], 0⟩) (fun k => n.toNat - k) (0) (by omega) ⟨qB (by simp [wD]), rfl, by simp, by simp⟩ ?_
 rintro k hk
 refine AW.seq ?_
 refine rgn [] [[], [], [0, 3, 4, 7]] ?_
 iterate 3 refine op1 tok ?_
 refine qA ?_
 refine cnd ?_ ?_
 ·intro h7
  try simp at h7
  refine AW.skip ?_
  refine AW.seq ?_
  refine AW.block ?_
  refine rgz [] [[], [], [0, 3, 4]] ?_
  iterate 3 refine op1 tok ?_ (hv := by first | with_reducible exact True.intro | (simp [wD]; omega; done) | omega | simp | (simp +contextual; omega))
  refine qA ?_
  refine rgz [] [[], [], [0, 3, 4]] ?_
  iterate 3 refine op1 tok ?_
  refine qA ?_
  exact ⟨k + 1, by omega, by omega, qB (by simp [wD, List.replicate_succ']), rfl, by simp [wD, List.replicate_succ'], by simp [wD, List.replicate_succ']⟩
 ·intro h7
  try simp at h7
  have hkn : k = n.toNat := by omega
  subst hkn
  refine AW.exit ?_
  simp
  refine rgn [] [[], [2]] ?_
  iterate 2 refine op1 tok ?_
  refine qA ?_
  exact AW.ret qJ
def qU (s : List UInt8) : List UInt8 := s.dropWhile (· == 48)
def kI (d : List UInt8) : Nat → List UInt8 × Nat
 | 0 => (d, 0)
 | k + 1 => if d.getLast? = some 48 then kI d.dropLast k else (d, k + 1)
def yL (neg : Bool) (digits : List UInt8) (scale : Nat) : Dc × Int :=
 let x := kI (qU digits) scale
 if x.1 = [] then (⟨false, [48], 0⟩, 0) else if 60 < x.1.length ∨ 60 < x.2 then (⟨false, [], 0⟩, 3) else (⟨neg, x.1, x.2⟩, 0)
theorem qFZ {d : List UInt8} (h : 0 < d.length) : qT d (d.length - 1) = 48 ↔ d.getLast? = some 48 := by
 rw [List.getLast?_eq_getElem?, qT, List.getD_eq_getElem?_getD, jY (by omega)]
 simp only [Option.getD_some, Option.some.injEq]
 constructor
 ·intro h2; exact UInt8.toNat_inj.1 (by have : ((d.getD (d.length - 1) 0).toNat : Int) = 48 := h2; show (d.getD (d.length - 1) 0).toNat = 48; omega)
 ·intro h2; rw [h2]; rfl
theorem qAQ (d : List UInt8) : d.take (d.length - 1) = d.dropLast := (List.dropLast_eq_take).symm
theorem zGV (neg : Bool) (digits : List UInt8) (scale : Nat) (hd : digits.length ≤ 1000000) (hs : scale ≤ 1000000) : AFn Tryz.prog G 74 [.bool neg, .str digits, .int .i64 scale] (.tup [(yL neg digits scale).1.enc, .int .i64 (yL neg digits scale).2]) := by
 refine AFn.introU tok Tryz.func74 (by kernel_rfl) rfl rfl ?_
 simp only [Tryz.f74, qI, List.map_cons, List.map_nil]
 refine rgn [] [[], [0, 1, 2, 6]] ?_
 iterate 2 refine op1 tok ?_
 refine qA ?_
 refine AW.seq ?_
 refine AW.block ?_
 refine AW.loop (α := List UInt8) (fun r => qU r = qU digits ∧ r.length ≤ digits.length) (fun r => ⟨qY 55 [(0, .p (.bool neg)), (1, .p (.str r)), (2, .p (.int .i64 scale)), (6, .ptr 6 0)], [], [(6, .vars 26 [.p (.bool false), .p (.str []), .p (.int .i64 0)])], 0⟩) (fun r => r.length) (digits) ⟨rfl, Nat.le_refl _⟩ ⟨qB (by simp), rfl, by simp, by simp⟩ ?_
 rintro r ⟨hr, hrl⟩
 have hix : 0 < r.length → r[0]? = some (r.getD 0 0) := fun h => jY h
 refine AW.seq ?_
 refine rgn [.int .u8 (qT r 0)] [[], [], [], [], [], [0, 1, 2, 6, 11, 13], [], [0, 1, 2, 6, 15]] ?_
 iterate 4 refine op1 tok ?_ (hv := by first | with_reducible exact True.intro | (first | exact fun h => ⟨h, _, hix (by omega), rfl⟩ | simp; done) | omega | simp | (simp +contextual; omega))
 iterate 3 refine op2 tok ?_ (hv := by first | with_reducible exact True.intro | (first | exact fun h => ⟨h, _, hix (by omega), rfl⟩ | simp; done) | omega | simp | (simp +contextual; omega))
 refine op1 tok ?_ (hv := by first | with_reducible exact True.intro | (first | exact fun h => ⟨h, _, hix (by omega), rfl⟩ | simp; done) | omega | simp | (simp +contextual; omega))
 refine qA ?_
 refine cnd ?_ ?_
 ·intro h15
  try simp at h15
  obtain ⟨b, r, rfl⟩ : ∃ b r', r = b :: r' := by
   cases r with
   | nil => simp at h15
   | cons b r => exact ⟨b, r, rfl⟩
  have hb : b = 48 := UInt8.toNat_inj.1 (by have h9 : (b.toNat : Int) = 48 := h15.2; show b.toNat = 48; omega)
  have hr' : qU r = qU digits := by rw [← hr]; simp [qU, hb]
  simp at hrl
  refine AW.skip ?_
  refine AW.block ?_
  refine rgz [] [[], [], [0, 1, 2, 6]] ?_
  iterate 3 refine op1 tok ?_
  refine qA ?_
  exact ⟨r, ⟨hr', by omega⟩, by simp, qB (by simp), rfl, by simp, by simp⟩
 ·intro h15
  try simp at h15
  have hr' : qU digits = r := by
   rw [← hr]
   cases r with
   | nil => rfl
   | cons b r =>
    have hb : b ≠ 48 := by rintro rfl; simp [qT] at h15
    simp [qU, hb]
  have hN : yL neg digits scale = (if (kI r scale).1 = [] then (⟨false, [48], 0⟩, 0) else if 60 < (kI r scale).1.length ∨ 60 < (kI r scale).2 then (⟨false, [], 0⟩, 3) else (⟨neg, (kI r scale).1, (kI r scale).2⟩, 0)) := by simp only [yL, hr']
  rw [hN]
  clear hN hix h15 hr hr'
  refine AW.exit ?_
  simp
  refine AW.seq ?_
  refine AW.block ?_
  refine AW.loop (α := List UInt8 × Nat) (fun a => kI r scale = kI a.1 a.2 ∧ a.2 ≤ scale ∧ a.1.length ≤ digits.length) (fun a => ⟨qY 55 [(0, .p (.bool neg)), (1, .p (.str a.1)), (2, .p (.int .i64 a.2)), (6, .ptr 6 0)], [], [(6, .vars 26 [.p (.bool false), .p (.str []), .p (.int .i64 0)])], 0⟩) (fun a => a.2) ((r, scale)) ⟨rfl, Nat.le_refl _, hrl⟩ ⟨qB (by simp), rfl, by simp, by simp⟩ ?_
  rintro ⟨d, k⟩ ⟨ht, hk, hdl⟩
  simp only at ht hk hdl
  have hix : 0 < d.length → d[d.length - 1]? = some (d.getD (d.length - 1) 0) := fun h => jY (by omega)
  refine AW.seq ?_
  refine rgn [.int .u8 (qT d (d.length - 1))] [[], [], [], [], [], [0, 1, 2, 6, 20, 23], [], [], [], [], [0, 1, 2, 6, 25, 26, 28], [], [], [0, 1, 2, 6, 25, 31], [0, 1, 2, 6, 32]] ?_
  iterate 15 first | refine op1 tok ?_ (hv := by first | with_reducible exact True.intro | (first | exact fun h1 h2 => ⟨⟨h1, h2⟩, by omega, by omega⟩ | exact fun h1 h2 => ⟨⟨h1, h2⟩, by omega, _, hix h2, rfl⟩ | simp; done) | omega | simp | (simp +contextual; omega)) | refine op2 tok ?_ (hv := by first | with_reducible exact True.intro | (first | exact fun h1 h2 => ⟨⟨h1, h2⟩, by omega, by omega⟩ | exact fun h1 h2 => ⟨⟨h1, h2⟩, by omega, _, hix h2, rfl⟩ | simp; done) | omega | simp | (simp +contextual; omega))
  refine qA ?_
  refine cnd ?_ ?_
  ·intro h32
   try simp at h32
   obtain ⟨k, rfl⟩ : ∃ k', k = k' + 1 := ⟨k - 1, by omega⟩
   have hl := (qFZ h32.1.2).1 h32.2
   have ht' : kI r scale = kI d.dropLast k := by rw [ht]; simp only [kI]; rw [if_pos hl]
   refine AW.skip ?_
   refine AW.block ?_
   refine rgn [] [[], [], [], [], [0, 2, 6, 37], [0, 1, 2, 6]] ?_
   iterate 6 refine op1 tok ?_
   refine qA ?_
   refine rgz [] [[], [], [0, 1, 2, 6]] ?_
   iterate 3 refine op1 tok ?_
   refine qA ?_
   exact ⟨(d.dropLast, k), ⟨ht', by simp only []; omega, by simp; omega⟩, by simp, qB (by simp [qAQ]), rfl, by simp [qAQ], by simp [qAQ]⟩
  ·intro h32
   try simp at h32
   have htl : kI d k = (d, k) := by
    cases k with
    | zero => rfl
    | succ k =>
     simp only [kI]
     rw [if_neg]
     intro hl
     have hpos : 0 < d.length := by cases d with
      | nil => simp at hl
      | cons => simp
     have := (qFZ hpos).2 hl
     simp [hpos, this] at h32
   rw [ht, htl]
   refine AW.exit ?_
   simp
   refine AW.seq ?_
   refine rgn [] [[], [0, 1, 2, 6, 41]] ?_
   iterate 2 refine op1 tok ?_
   refine qA ?_
   refine cnd ?_ ?_
   ·intro h41
    try simp at h41
    subst h41
    refine rgn [] [[], [], [6, 7]] ?_
    iterate 3 refine op1 tok ?_
    refine qA ?_
    exact AW.ret qJ
   ·intro h41
    try simp at h41
    refine AW.skip ?_
    refine AW.seq ?_
    refine rgn [] [[], [], [], [], [], [0, 1, 2, 6, 46, 48], [0, 1, 2, 6, 49]] ?_
    iterate 4 refine op1 tok ?_
    iterate 2 refine op2 tok ?_
    refine op1 tok ?_
    refine qA ?_
    refine cnd ?_ ?_
    ·intro h49
     try simp at h49
     have hbig : 60 < d.length ∨ 60 < k := by omega
     refine rgn [] [[], [], [6, 7]] ?_
     iterate 3 refine op1 tok ?_
     refine qA ?_
     exact AW.ret (qJ (k := by simp [h41, hbig]))
    ·intro h49
     try simp at h49
     have hbig : ¬ (60 < d.length ∨ 60 < k) := by omega
     refine AW.skip ?_
     refine rgn [] [[], [], [], [6, 54], [], [6, 7]] ?_
     iterate 6 refine op1 tok ?_
     refine qA ?_
     exact AW.ret (qJ (k := by simp [h41, hbig]))
def qCD (n : Int) : Bool := decide (n < 48) || decide (57 < n)
theorem zLW (n : Int) : AFn Tryz.prog G 227 [.int .i32 n] (.bool (qCD n)) := by
 refine AFn.introU tok Tryz.func227 (by kernel_rfl) rfl rfl ?_
 simp only [Tryz.f227, qI, List.map_cons, List.map_nil]
 refine rgn [] [[0]] ?_
 refine op1 tok ?_
 refine qA ?_
 refine rgn [] [[], [], [], [], [5, 7], [], [2]] ?_
 iterate 3 refine op1 tok ?_
 iterate 2 refine op2 tok ?_
 iterate 2 refine op1 tok ?_
 refine qA ?_
 exact AW.ret (qJ (k := by simp [qCD]))
theorem zID (b : UInt8) : qCD b.toNat = !qG b := by
 rw [Bool.eq_iff_iff]; simp [qCD, qG, kS]
def zZ (d : Dc) : Bool := d.digits.all qG && decide (1 ≤ d.digits.length ∧ d.digits.length ≤ 60 ∧ 0 ≤ d.scale ∧ d.scale ≤ 60) &&
 (if d.digits = [48] then decide (d.scale = 0) && !d.neg else decide (qT d.digits 0 ≠ 48) && (decide (d.scale = 0) || decide (qT d.digits (d.digits.length - 1) ≠ 48)))
theorem zAU {d : Dc} (h : d.digits.length = 0 ∨ 60 < d.digits.length ∨ d.scale < 0 ∨ 60 < d.scale ∨ d.digits.all qG = false) : zZ d = false := by
 unfold zZ
 rcases h with h | h | h | h | h
 ·rw [show decide (1 ≤ d.digits.length ∧ d.digits.length ≤ 60 ∧ 0 ≤ d.scale ∧ d.scale ≤ 60) = false by simp; omega]; simp
 ·rw [show decide (1 ≤ d.digits.length ∧ d.digits.length ≤ 60 ∧ 0 ≤ d.scale ∧ d.scale ≤ 60) = false by simp; omega]; simp
 ·rw [show decide (1 ≤ d.digits.length ∧ d.digits.length ≤ 60 ∧ 0 ≤ d.scale ∧ d.scale ≤ 60) = false by simp; omega]; simp
 ·rw [show decide (1 ≤ d.digits.length ∧ d.digits.length ≤ 60 ∧ 0 ≤ d.scale ∧ d.scale ≤ 60) = false by simp; omega]; simp
 ·simp [h]
theorem qUB {d : Dc} (h : 1 ≤ d.digits.length ∧ d.digits.length ≤ 60 ∧ 0 ≤ d.scale ∧ d.scale ≤ 60) (ha : d.digits.all qG = true) :
  zZ d = (if d.digits = [48] then decide (d.scale = 0) && !d.neg else decide (qT d.digits 0 ≠ 48) && (decide (d.scale = 0) || decide (qT d.digits (d.digits.length - 1) ≠ 48))) := by
 unfold zZ; rw [ha, show decide (1 ≤ d.digits.length ∧ d.digits.length ≤ 60 ∧ 0 ≤ d.scale ∧ d.scale ≤ 60) = true by simpa using h]; simp
theorem qYV (d : Dc) : AFn Tryz.prog G 19 [d.enc] (.bool (zZ d)) := by
 refine AFn.introU tok Tryz.func19 (by kernel_rfl) rfl rfl ?_
 simp only [Tryz.f19, qI, List.map_cons, List.map_nil]
 have hdg := fun k => zAN (G := G) (qT d.digits k)
 have hix : ∀ k : Nat, k < d.digits.length → d.digits[k]? = some (d.digits.getD k 0) := fun k h => jY h
 refine rgn [] [[], [1]] ?_
 iterate 2 refine op1 tok ?_
 refine qA ?_
 refine rgn [] [[], [], [], [1, 3]] ?_
 iterate 4 refine op1 tok ?_
 refine qA ?_
 refine AW.seq ?_
 refine rgn [] [[]] ?_
 refine op1 tok ?_
 refine qA ?_
 refine AW.block ?_
 refine AW.intFactU (i := 3) rfl (by decide) ?_; intro hlen; simp at hlen
 refine AW.loop (α := Nat) (fun k => k ≤ d.digits.length ∧ (d.digits.take k).all qG = true) (fun k => ⟨qY 63 [(1, .ptr 1 0), (3, .p (.int .i64 d.digits.length)), (4, .p (.int .i64 k))], [], [(1, .vars 26 [.p (.bool d.neg), .p (.str d.digits), .p (.int .i64 d.scale)])], 0⟩) (fun k => d.digits.length - k) (0) ⟨by omega, rfl⟩ ⟨qB (by simp), rfl, by simp, by simp⟩ ?_
 rintro k ⟨hk, hall⟩
 refine AW.seq ?_
 refine rgn [] [[], [], [1, 3, 4, 10]] ?_
 iterate 3 refine op1 tok ?_
 refine qA ?_
 refine cnd ?_ ?_
 ·intro h10
  try simp at h10
  refine AW.skip ?_
  refine AW.seq ?_
  refine AW.block ?_
  refine rgn [.int .u8 (qT d.digits k), .nilp, .bool (kS (qT d.digits k))] [[], [], [], [], [1, 3, 4, 17], [1, 3, 4, 18]] ?_
  iterate 6 refine op1 tok ?_ (hv := by first | with_reducible exact True.intro | (first | exact hdg k | ((repeat' (first | with_reducible apply And.intro | intro _)) <;> first | omega | assumption | contradiction | exact ⟨_, hix _ (by omega), rfl⟩ | simp_all); done) | omega | simp | (simp +contextual; omega))
  refine qA ?_
  refine cnd ?_ ?_
  ·intro h18
   try simp at h18
   have hno : zZ d = false := zAU (.inr (.inr (.inr (.inr (by rw [List.all_eq_false]; exact ⟨_, List.mem_of_getElem? (hix k h10), by simpa [qG, qT] using h18⟩)))))
   refine rgn [] [[]] ?_
   refine op1 tok ?_
   refine qA ?_
   exact AW.ret (qJ (k := by simp [hno]))
  ·intro h18
   try simp at h18
   refine AW.skip ?_
   refine rgz [] [[], [], [1, 3, 4]] ?_
   iterate 3 refine op1 tok ?_
   refine qA ?_
   exact ⟨k + 1, ⟨by omega, by rw [List.take_add_one, hix k h10, List.all_append, hall]; simpa [qG, qT] using h18⟩, by omega, qB (by simp), rfl, by simp, by simp⟩
 ·intro h10
  try simp at h10
  rw [List.take_of_length_le (by omega)] at hall
  refine AW.exit ?_
  simp
  refine AW.seq ?_
  refine rgn [] [[], [], [], [], [], [1, 3, 24], [], [], [], [], [1, 3, 29], [], [], [], [], [1, 3, 34]] ?_
  iterate 16 first | refine op1 tok ?_ | refine op2 tok ?_
  refine qA ?_
  refine cnd ?_ ?_
  ·intro h34
   try simp at h34
   have hno : zZ d = false := zAU (by omega)
   refine rgn [] [[]] ?_
   refine op1 tok ?_
   refine qA ?_
   exact AW.ret (qJ (k := by simp [hno]))
  ·intro h34
   try simp at h34
   rw [qUB (by omega) hall]
   refine AW.skip ?_
   refine AW.seq ?_
   refine rgn [] [[], [], [1, 3, 37]] ?_
   iterate 3 refine op1 tok ?_
   refine qA ?_
   refine cnd ?_ ?_
   ·intro h37
    try simp at h37
    refine rgn [] [[], [], [], [], [41, 42], [], [], [45], [2]] ?_
    iterate 4 refine op1 tok ?_
    iterate 3 refine op2 tok ?_
    iterate 2 refine op1 tok ?_
    refine qA ?_
    exact AW.ret (qJ (k := by simp [h37]))
   ·intro h37
    try simp at h37
    refine AW.skip ?_
    refine rgn [.int .u8 (qT d.digits 0), .int .u8 (qT d.digits (d.digits.length - 1))] [[], [], [], [], [1, 3, 50], [], [], [], [], [3, 50, 54, 55], [], [], [], [50, 54, 59], [], [], [62], [2]] ?_
    iterate 5 refine op1 tok ?_ (hv := by first | with_reducible exact True.intro | (((repeat' (first | with_reducible apply And.intro | intro _)) <;> first | omega | assumption | contradiction | exact ⟨_, hix _ (by omega), rfl⟩ | simp_all); done) | omega | simp | (simp +contextual; omega))
    iterate 11 refine op2 tok ?_ (hv := by first | with_reducible exact True.intro | (((repeat' (first | with_reducible apply And.intro | intro _)) <;> first | omega | assumption | contradiction | exact ⟨_, hix _ (by omega), rfl⟩ | simp_all); done) | omega | simp | (simp +contextual; omega))
    iterate 2 refine op1 tok ?_ (hv := by first | with_reducible exact True.intro | (((repeat' (first | with_reducible apply And.intro | intro _)) <;> first | omega | assumption | contradiction | exact ⟨_, hix _ (by omega), rfl⟩ | simp_all); done) | omega | simp | (simp +contextual; omega))
    refine qA ?_
    exact AW.ret (qJ (k := by simp [h37]))
namespace Sy
variable {P : Program} {G : qV}
theorem AFn.of_calls {f : FuncId} {args : List PD} {r : PD} (hc : qBJ P f) (h : ∀ (M : zB) (w : World) (vs : Array Value), GOK G M w → (∀ b o v, M b o = some v → w.cell? ⟨b, o, none⟩ = some v) → vs.size = args.length →
  (∀ (i : Nat) u d, vs[i]? = some u → args[i]? = some d → Rd M u d) → Calls P f vs w fun e w' => ∃ v, e = .returned v ∧ Rd M v r ∧ RowKit.Below w.heap.size w w') : AFn P G f args r := by
 refine ⟨hc, fun M w vs hg hmem hsz hrd => (h M w vs hg hmem hsz hrd).mono ?_⟩
 rintro e w' ⟨v, rfl, hv, hb⟩
 refine ⟨v, M, rfl, hv, fun b o u hu => ?_, fun _ _ _ h => h, fun _ _ _ => rfl, hb⟩
 have h1 := hmem b o u hu
 exact (World.cell?_of_block (w := w) (hb.block b (jU h1))).trans h1
theorem uZ {f : FuncId} {fn : Func} {c : Code} (hf : P.funcs[f]? = some fn) (hn : (fn.name == "runtime.NumGoroutine") = false) (hb : fn.body = some c) : qBJ P f := ⟨fn, c, hf, hn, hb⟩
end Sy
@[simp] def Val.cells (v : Val) : List V := [.p (.int .i64 v.kind), .p (.int .u64 v.mask), .p (.bool v.num.neg), .p (.str v.num.digits), .p (.int .i64 v.num.scale), .p (.str v.text), .p (.sl 1 (v.keys.map PD.str)), .p (.sl 9 (v.kids.map Val.enc)), .p (.int .i64 v.code)]
def kB (s : List UInt8) : Bool := decide ((s.length : Int) ≤ 4096) && Lib.validD s
def kX (l : List (List UInt8)) : Bool := l.all kB && decide l.Nodup
theorem qTJ {l : List (List UInt8)} {k : Nat} {s : List UInt8} (h : l[k]? = some s) (hb : kB s = false ∨ s ∈ l.take k) : kX l = false := by
 unfold kX
 rcases hb with hb | hb
 ·rw [List.all_eq_false.2 ⟨s, List.mem_of_getElem? h, by simp [hb]⟩]; rfl
 ·have : ¬ l.Nodup := fun hn => by
   obtain ⟨j, hj, hjs⟩ := List.mem_iff_getElem.1 hb
   have hk := (List.getElem?_eq_some_iff.1 h)
   rw [List.getElem_take] at hjs
   have hjk : j < k := by simp at hj; omega
   exact (List.pairwise_iff_getElem.1 hn) j k (by simp at hj; omega) hk.1 hjk (by rw [hjs, hk.2])
  simp [this]
theorem zDM {l : List (List UInt8)} {k : Nat} {s : List UInt8} (h : l[k]? = some s) (h1 : kX (l.take k) = true) (h2 : kB s = true) (h3 : s ∉ l.take k) : kX (l.take (k + 1)) = true := by
 unfold kX at h1 ⊢
 rw [List.take_add_one, h]
 simp only [Bool.and_eq_true, decide_eq_true_eq] at h1 ⊢
 refine ⟨by rw [List.all_append, h1.1]; simp [h2], ?_⟩
 rw [List.nodup_append]
 exact ⟨h1.2, by simp, by intro a ha b hb; simp at hb; subst hb; rintro rfl; exact h3 ha⟩
def qEU (v : Val) : Bool := if v.kind = 4 then zZ v.num else decide (v.num.neg = false ∧ v.num.digits = [] ∧ v.num.scale = 0)
def uB (v : Val) : Bool := if v.kind = 5 then kB v.text else decide (v.text = [])
def jC (v : Val) : Bool := if v.kind = 7 then decide ((v.keys.length : Int) = v.kids.length) && kX v.keys else decide (v.keys = [])
def qEP (v : Val) : Bool := decide (v.kids = []) || decide (v.kind = 6) || decide (v.kind = 7)
def qHJ (v : Val) : Bool := decide (decide (v.kind = 8) = !decide (v.code = 0))
def jA (v : Val) : Bool := qHJ v && qEU v && uB v && jC v && qEP v
def yY (v : Val) : Bool := decide (1 ≤ v.kind ∧ v.kind ≤ 8 ∧ v.kids.length ≤ 200)
mutual
def qQ : Val → Bool
 | .mk k m n t ks vs c => yY (.mk k m n t ks vs c) && jA (.mk k m n t ks vs c) && qZS vs
def qZS : List Val → Bool
 | [] => true
 | v :: vs => qQ v && qZS vs
end
theorem qSW : ∀ l, qZS l = l.all qQ
 | [] => by simp [qZS]
 | v :: vs => by simp [qZS, qSW vs]
theorem yV (v : Val) : qQ v = (yY v && jA v && v.kids.all qQ) := by
 cases v; simp only [qQ, qSW, Val.kids]
theorem zTI {α : Type} {l : List α} : ((l.length : Int) = 0) = (l = []) := by rw [← List.length_eq_zero_iff]; exact propext (by omega)
def qJJ (v : Val) (s : List UInt8) : Val := v.kids.getD (v.keys.idxOf s) qOV
theorem qTI {v : Val} (hl : v.keys.length ≤ v.kids.length) {s : List UInt8} (h : s ∈ v.keys) : v.kids[v.keys.idxOf s]? = some (qJJ v s) := by
 have := List.idxOf_lt_length_of_mem h
 simp [qJJ, List.getD_eq_getElem?_getD, show v.keys.idxOf s < v.kids.length by omega]
theorem wJ {v k : Val} (h : qQ v = true) (hk : k ∈ v.kids) : qQ k = true := by
 rw [yV] at h; simp only [Bool.and_eq_true, List.all_eq_true] at h; exact h.2 k hk
theorem vP {v : Val} (h : qQ v = true) (h7 : v.kind = 7) : v.keys.length = v.kids.length ∧ v.keys.length ≤ 200 ∧ v.keys.Nodup := by
 rw [yV] at h
 simp only [Bool.and_eq_true, yY, jA, jC, decide_eq_true_eq] at h
 obtain ⟨⟨h1, ⟨⟨_, h2⟩, _⟩⟩, _⟩ := h
 rw [if_pos h7] at h2
 simp [kX] at h2
 exact ⟨by omega, by omega, h2.2.2⟩
theorem jL {v : Val} (h : qQ v = true) (h4 : v.kind = 4) : zZ v.num = true := by
 rw [yV] at h
 simp only [Bool.and_eq_true, jA, qEU] at h
 obtain ⟨⟨h1, ⟨⟨⟨⟨_, h2⟩, _⟩, _⟩, _⟩⟩, _⟩ := h
 rw [if_pos h4] at h2; exact h2
mutual
def qBA (ch : Val → Val) : Val → Val
 | .mk k m n t ks vs c => ch (.mk k m n t ks (qZU ch vs) c)
def qZU (ch : Val → Val) : List Val → List Val
 | [] => []
 | v :: vs => qBA ch v :: qZU ch vs
end
theorem qSY (ch : Val → Val) : ∀ l, qZU ch l = l.map (qBA ch)
 | [] => by simp [qZU]
 | v :: vs => by simp [qZU, qSY ch vs]
theorem qMZ (ch : Val → Val) (v : Val) : qBA ch v = ch (.mk v.kind v.mask v.num v.text v.keys (v.kids.map (qBA ch)) v.code) := by
 cases v; simp only [qBA, qSY, Val.kind_mk, Val.mask_mk, Val.num_mk, Val.text_mk, Val.keys_mk, Val.kids_mk, Val.code_mk]
theorem yU {v : Val} (h : qQ v = true) : v.keys.length ≤ 200 ∧ v.kids.length ≤ 200 := by
 by_cases h7 : v.kind = 7
 ·have := vP h h7; omega
 ·rw [yV] at h
  simp only [Bool.and_eq_true, yY, jA, jC, decide_eq_true_eq] at h
  obtain ⟨⟨h1, ⟨⟨_, h2⟩, _⟩⟩, _⟩ := h
  rw [if_neg h7] at h2
  simp at h2
  rw [h2]; simp; omega
def qKA (u : Val) : Val := .mk u.kind 0 u.num u.text u.keys u.kids u.code
def qK (v : Val) : Val := qBA qKA v
def InM (a : Int) : Prop := 0 ≤ a ∧ a < 18446744073709551616
def yT (a : Int) : Nat := (a % 18446744073709551616).toNat
theorem qMX (a : Int) : yT a < 2 ^ 64 := by unfold yT; omega
theorem zFQ {a : Int} (h : InM a) : ((yT a : Nat) : Int) = a := by unfold yT; unfold InM at h; omega
theorem qSS {n : Nat} (h : n < 2 ^ 64) : yT n = n := by unfold yT; omega
theorem zMU {n : Nat} (h : n < 2 ^ 64) : InM n := by unfold InM; omega
def orM (a b : Int) : Int := ((yT a ||| yT b : Nat) : Int)
def zRA (a b : Int) : Int := ((yT a &&& yT b : Nat) : Int)
def yI (a b : Int) : Int := ((yT a &&& (18446744073709551615 - yT b) : Nat) : Int)
theorem zFM (a b : Int) : yT a ||| yT b < 2 ^ 64 := Nat.or_lt_two_pow (qMX a) (qMX b)
theorem zUD (a b : Int) : yT a &&& yT b < 2 ^ 64 := Nat.and_lt_two_pow _ (qMX b)
theorem zSK (a b : Int) : yT a &&& (18446744073709551615 - yT b) < 2 ^ 64 := Nat.and_lt_two_pow _ (by omega)
theorem qZG (a b : Int) : InM (orM a b) := zMU (zFM a b)
theorem qJE (a b : Int) : yT (orM a b) = yT a ||| yT b := qSS (zFM a b)
theorem qNI {n : Nat} (h : n < 2 ^ 64) : IntKind.u64.wrap (n : Int) = n := by simp [IntKind.wrap, IntKind.bits, IntKind.signed]; omega
theorem wI (a b : Int) : IntKind.u64.wrap (((a % 2 ^ IntKind.u64.bits).toNat ||| (b % 2 ^ IntKind.u64.bits).toNat : Nat) : Int) = orM a b := qNI (zFM a b)
theorem zBN (a b : Int) : IntKind.u64.wrap (((a % 2 ^ IntKind.u64.bits).toNat &&& (b % 2 ^ IntKind.u64.bits).toNat : Nat) : Int) = zRA a b := qNI (zUD a b)
theorem qNT (a b : Int) : IntKind.u64.wrap (((a % 2 ^ IntKind.u64.bits).toNat &&& (2 ^ IntKind.u64.bits - 1 - (b % 2 ^ IntKind.u64.bits).toNat) : Nat) : Int) = yI a b := qNI (zSK a b)
theorem or_comm (a b : Int) : orM a b = orM b a := by unfold orM; rw [Nat.or_comm]
theorem or_assoc (a b c : Int) : orM (orM a b) c = orM a (orM b c) := by
 show ((yT (orM a b) ||| yT c : Nat) : Int) = ((yT a ||| yT (orM b c) : Nat) : Int)
 rw [qJE, qJE, Nat.or_assoc]
theorem or_self {a : Int} (h : InM a) : orM a a = a := by unfold orM; rw [Nat.or_self, zFQ h]
def LeM (a b : Int) : Prop := orM a b = b
theorem LeM.or_left (a b : Int) : LeM a (orM a b) := by
 unfold LeM; rw [← or_assoc]
 unfold orM; rw [qSS (zFM a a), Nat.or_self]
theorem LeM.or_right (a b : Int) : LeM b (orM a b) := by rw [or_comm]; exact .or_left b a
theorem LeM.trans {a b c : Int} (h1 : LeM a b) (h2 : LeM b c) : LeM a c := by
 unfold LeM at *; rw [← h2, ← or_assoc, h1]
theorem LeM.or {a b c : Int} (h1 : LeM a c) (h2 : LeM b c) : LeM (orM a b) c := by
 unfold LeM at *; rw [or_assoc, h2, h1]
theorem LeM.refl {a : Int} (h : InM a) : LeM a a := or_self h
theorem LeM.and {a b : Int} (h : LeM a b) (ha : InM a) : zRA b a = a := by
 unfold LeM at h
 have h1 : yT a ||| yT b = yT b := by rw [← qJE, h]
 unfold zRA
 have : yT b &&& yT a = yT a := by
  rw [← h1]
  apply Nat.eq_of_testBit_eq; intro i
  simp only [Nat.testBit_and, Nat.testBit_or]
  cases (yT a).testBit i <;> cases (yT b).testBit i <;> rfl
 rw [this, zFQ ha]
theorem LeM.sub {a b : Int} (h : LeM a b) : yI a b = 0 := by
 unfold LeM at h
 have h1 : yT a ||| yT b = yT b := by rw [← qJE, h]
 have hb := qMX b
 unfold yI
 have : yT a &&& (18446744073709551615 - yT b) = 0 := by
  apply Nat.eq_of_testBit_eq; intro i
  rw [show 18446744073709551615 - yT b = 2 ^ 64 - (yT b + 1) by omega]
  simp only [Nat.testBit_and, Nat.testBit_two_pow_sub_succ hb, Nat.zero_testBit]
  have h3 : (yT a ||| yT b).testBit i = (yT b).testBit i := by rw [h1]
  rw [Nat.testBit_or] at h3
  revert h3
  cases (yT a).testBit i <;> cases (yT b).testBit i <;> simp
 rw [this]; rfl
def wU : Val := .mk 0 0 dc0 [] [] [] 0
@[simp] theorem zRW : wU.kind = 0 := rfl
@[simp] theorem zRV : wU.mask = 0 := rfl
@[simp] theorem zUJ : wU.num.neg = false := rfl
@[simp] theorem zOW : wU.num.digits = [] := rfl
@[simp] theorem zRH : wU.num.scale = 0 := rfl
@[simp] theorem zRU : wU.text = [] := rfl
@[simp] theorem zRY : wU.keys = [] := rfl
@[simp] theorem zRX : wU.kids = [] := rfl
@[simp] theorem zRZ : wU.code = 0 := rfl
@[simp] def zRI : List V := [.p (.int .i64 0), .p (.int .u64 0), .p (.bool false), .p (.str []), .p (.int .i64 0), .p (.str []), .nilsl, .nilsl, .p (.int .i64 0)]
def qIR (v : Val) (m : Int) : Val := .mk v.kind m v.num v.text v.keys v.kids v.code
@[simp] theorem zUO (u : Val) (m : Int) : (qIR u m).kind = u.kind := rfl
@[simp] theorem zUN (u : Val) (m : Int) : (qIR u m).mask = m := rfl
@[simp] theorem zXL (u : Val) (m : Int) : (qIR u m).num = u.num := rfl
@[simp] theorem zUM (u : Val) (m : Int) : (qIR u m).text = u.text := rfl
@[simp] theorem zUQ (u : Val) (m : Int) : (qIR u m).keys = u.keys := rfl
@[simp] theorem zUP (u : Val) (m : Int) : (qIR u m).kids = u.kids := rfl
@[simp] theorem zUR (u : Val) (m : Int) : (qIR u m).code = u.code := rfl
def qFB (v : Val) (l : List Val) : Val := .mk v.kind v.mask v.num v.text v.keys l v.code
@[simp] theorem zUU (u : Val) (m : List Val) : (qFB u m).kind = u.kind := rfl
@[simp] theorem zUT (u : Val) (m : List Val) : (qFB u m).mask = u.mask := rfl
@[simp] theorem zXM (u : Val) (m : List Val) : (qFB u m).num = u.num := rfl
@[simp] theorem zUS (u : Val) (m : List Val) : (qFB u m).text = u.text := rfl
@[simp] theorem zUW (u : Val) (m : List Val) : (qFB u m).keys = u.keys := rfl
@[simp] theorem zUV (u : Val) (m : List Val) : (qFB u m).kids = m := rfl
@[simp] theorem zUX (u : Val) (m : List Val) : (qFB u m).code = u.code := rfl
def xC (v : Val) (m : Int) : Val := qIR v (orM v.mask m)
@[simp] theorem zSE (u : Val) (m : Int) : (xC u m).kind = u.kind := rfl
@[simp] theorem zSD (u : Val) (m : Int) : (xC u m).mask = orM u.mask m := rfl
@[simp] theorem zUK (u : Val) (m : Int) : (xC u m).num = u.num := rfl
@[simp] theorem zSC (u : Val) (m : Int) : (xC u m).text = u.text := rfl
@[simp] theorem zSG (u : Val) (m : Int) : (xC u m).keys = u.keys := rfl
@[simp] theorem zSF (u : Val) (m : Int) : (xC u m).kids = u.kids := rfl
@[simp] theorem zSH (u : Val) (m : Int) : (xC u m).code = u.code := rfl
theorem kT (v : Val) : qK v = qFB (qIR v 0) (v.kids.map qK) := by
 show qBA qKA v = _
 rw [qMZ]; rfl
@[simp] theorem zTT (u : Val) : (qK u).kind = u.kind := by rw [kT]; rfl
@[simp] theorem zEK (u : Val) : (qK u).mask = 0 := by rw [kT]; rfl
@[simp] theorem zVE (u : Val) : (qK u).num = u.num := by rw [kT]; rfl
@[simp] theorem zTS (u : Val) : (qK u).text = u.text := by rw [kT]; rfl
@[simp] theorem zTU (u : Val) : (qK u).keys = u.keys := by rw [kT]; rfl
@[simp] theorem zEL (u : Val) : (qK u).kids = u.kids.map qK := by rw [kT]; rfl
@[simp] theorem zTV (u : Val) : (qK u).code = u.code := by rw [kT]; rfl
theorem qWG (v : Val) : qBA id v = v := by
 induction v using Val.induct with
 | h v ih =>
  rw [qMZ]
  have : v.kids.map (qBA id) = v.kids := by
   conv => rhs; rw [← List.map_id v.kids]
   exact List.map_congr_left fun k hk => ih k hk
  rw [this]; cases v; rfl
mutual
def qM : Val → Int
 | .mk _ m _ _ _ vs _ => kN m vs
def kN (m : Int) : List Val → Int
 | [] => m
 | v :: vs => kN (orM m (qM v)) vs
end
theorem jX (v : Val) : qM v = kN v.mask v.kids := by cases v; simp only [qM, Val.mask_mk, Val.kids_mk]
theorem qWX (l : List Val) (x : Val) : ∀ m, kN m (l ++ [x]) = orM (kN m l) (qM x) := by
 induction l with
 | nil => intro m; simp only [List.nil_append, kN]
 | cons y l ih => intro m; simp only [List.cons_append, kN, ih]
theorem uH {m : Int} {l : List Val} {k : Nat} {x : Val} (h : l[k]? = some x) : kN m (l.take (k + 1)) = orM (kN m (l.take k)) (qM x) := by
 rw [List.take_add_one, h]; exact qWX _ _ _
@[simp] theorem zVB (m : Int) : kN m [] = m := by simp only [kN]
mutual
def InV : Val → Prop
 | .mk _ m _ _ _ vs _ => InM m ∧ zOQ vs
def zOQ : List Val → Prop
 | [] => True
 | v :: vs => InV v ∧ zOQ vs
end
theorem zBV : ∀ l, zOQ l ↔ ∀ v ∈ l, InV v
 | [] => by simp [zOQ]
 | v :: vs => by simp [zOQ, zBV vs]
theorem qXM (v : Val) : InV v ↔ InM v.mask ∧ ∀ k ∈ v.kids, InV k := by cases v; simp only [InV, zBV, Val.mask_mk, Val.kids_mk]
theorem zOP {v : Val} (h : InV v) : InM v.mask := ((qXM v).1 h).1
mutual
def zXY : Val → Nat
 | .mk _ _ _ _ _ vs _ => zQM 0 vs + 1
def zQM (d : Nat) : List Val → Nat
 | [] => d
 | v :: vs => zQM (max d (zXY v)) vs
end
@[simp] theorem zXZ (m : Nat) : zQM m [] = m := by simp only [zQM]
theorem zEZ (v : Val) : Val.sz v = 1 + Val.szL v.kids := by cases v; simp only [Val.sz, Val.kids_mk]
@[simp] theorem zYE : Val.szL [] = 0 := by simp only [Val.szL]
@[simp] theorem zYD (x : Val) : Val.szL [x] = Val.sz x := by simp only [Val.szL, Nat.add_zero]
theorem zSJ (v : Val) : 1 ≤ Val.sz v := by rw [zEZ]; omega
theorem zFA : ∀ l : List Val, l.length ≤ Val.szL l
 | [] => by simp
 | v :: l => by simp only [Val.szL, List.length_cons]; have := zFA l; have := zSJ v; omega
theorem qPI {v : Val} {n : Nat} (h : Val.sz v ≤ n) : v.kids.length ≤ n := by rw [zEZ] at h; have := zFA v.kids; omega
@[simp] theorem zTY (u : Val) : (qKA u).kind = u.kind := rfl
@[simp] theorem zTX (u : Val) : (qKA u).mask = 0 := rfl
@[simp] theorem zVF (u : Val) : (qKA u).num = u.num := rfl
@[simp] theorem zTW (u : Val) : (qKA u).text = u.text := rfl
@[simp] theorem zUA (u : Val) : (qKA u).keys = u.keys := rfl
@[simp] theorem zTZ (u : Val) : (qKA u).kids = u.kids := rfl
@[simp] theorem zUB (u : Val) : (qKA u).code = u.code := rfl
def xG (ch : Val → Val) (v : Val) (k : Nat) : List PD := (v.kids.take k).map (fun u => (qBA ch u).enc) ++ (v.kids.drop k).map Val.enc
theorem qPK (ch : Val → Val) (v : Val) (k : Nat) : (xG ch v k).length = v.kids.length := by
 simp only [xG, List.length_append, List.length_map, List.length_take, List.length_drop]; omega
@[simp] theorem zRO (ch : Val → Val) (v : Val) : xG ch v 0 = v.kids.map Val.enc := by simp only [xG, List.take_zero, List.map_nil, List.nil_append, List.drop_zero]
theorem qPL {ch : Val → Val} {v x : Val} {k : Nat} (hx : v.kids[k]? = some x) : (xG ch v k)[k]? = some x.enc := by
 have hk := (List.getElem?_eq_some_iff.1 hx).1
 have h0 : ((v.kids.take k).map (fun u => (qBA ch u).enc)).length = k := by simp only [List.length_map, List.length_take]; omega
 rw [xG, List.getElem?_append_right (by omega), h0, Nat.sub_self, List.getElem?_map, List.getElem?_drop, Nat.add_zero, hx]; rfl
theorem qPJ {ch : Val → Val} {v x : Val} {k : Nat} (hx : v.kids[k]? = some x) : (xG ch v k).set k (qBA ch x).enc = xG ch v (k + 1) := by
 have hk := (List.getElem?_eq_some_iff.1 hx).1
 have hxk := (List.getElem?_eq_some_iff.1 hx).2
 have h0 : ((v.kids.take k).map (fun u => (qBA ch u).enc)).length = k := by simp only [List.length_map, List.length_take]; omega
 rw [xG, List.set_append_right _ _ (by omega), h0, Nat.sub_self, List.drop_eq_getElem_cons hk, xG, List.take_succ_eq_append_getElem hk, hxk]
 simp only [List.map_cons, List.set_cons_zero, List.map_append, List.map_nil, List.append_assoc, List.cons_append, List.nil_append]
theorem qZT (g : FuncId) (ch : Val → Val) (v : Val) (hg : ∀ u : Val, AX Tryz.prog G g [.ptr 2 0] [(2, .vars 31 u.cells)] (.tuple []) [2] [(2, .vars 31 (ch u).cells)]) (hsm : v.keys.length ≤ 1000000 ∧ v.kids.length ≤ 1000000) (ih : ∀ k ∈ v.kids, AFn Tryz.prog G 134 [k.enc, .fn g] (qBA ch k).enc) : AFn Tryz.prog G 134 [v.enc, .fn g] ((qBA ch v).enc) := by
 refine AFn.introU tok Tryz.func134 (by kernel_rfl) rfl rfl ?_
 simp only [Tryz.f134, qI, List.map_cons, List.map_nil]
 have hck := qUI (G := G) v.keys (by omega)
 have hcv := qUG (G := G) v.kids (by omega)
 refine rgn [] [[], [1, 2, 4]] ?_
 iterate 2 refine op1 tok ?_
 refine qA ?_
 refine AW.seqRunDrawK tok mixed [1, 2, 4] 8 [[2], [7], [8], [2], [10], [11], [2], [13, 9]] [.nilf, .sl 1 (v.keys.map PD.str), .clo 9 [], .nilf, .sl 9 (v.kids.map Val.enc), .clo 31 []] [] (by kernel_rfl) (by intro C; conv => lhs; simp) (by first | exact hck | exact hcv | ((repeat' (first | with_reducible apply And.intro | intro _)) <;> first | exact (hck) | exact (hcv) | assumption | omega | contradiction | simp_all)) (by simp [Sm.sum, Sm.foot, Sm.tch, Sm.refs]; kernel_rfl) (by intro C; conv => lhs; simp) (by first | with_reducible exact True.intro | omega | simp | (simp +contextual; omega)) ?_
 refine AW.seq ?_
 refine rgn [] [[], [], [], [1, 2, 4, 16, 17, 18]] ?_
 iterate 4 refine op1 tok ?_
 refine qA ?_
 refine AW.block ?_
 refine AW.loop (α := Nat) (fun k => k ≤ v.kids.length) (fun k => ⟨qY 34 [(1, .p (.fn g)), (2, .ptr 2 0), (4, .ptr 4 0), (16, .ms 12), (17, .p (.int .i64 v.kids.length)), (18, .p (.int .i64 k))], [], [(2, .vars 31 [.p (.int .i64 v.kind), .p (.int .u64 v.mask), .p (.bool v.num.neg), .p (.str v.num.digits), .p (.int .i64 v.num.scale), .p (.str v.text), .ms 9, .ms 12, .p (.int .i64 v.code)]), (4, .vars 31 [.p (.int .i64 0), .p (.int .u64 0), .p (.bool false), .p (.str []), .p (.int .i64 0), .p (.str []), .nilsl, .nilsl, .p (.int .i64 0)]), (9, .row 9 1 (v.keys.map PD.str)), (12, .row 31 9 (xG ch v k))], 0⟩) (fun k => v.kids.length - k) (0) (by simp) ⟨qB (by simp), rfl, by simp, by simp⟩ ?_
 rintro k hk
 refine rgn [] [[]] ?_
 refine op1 tok ?_
 refine qA ?_
 refine AW.seq ?_
 refine cnd ?_ ?_
 ·intro h19
  try simp at h19
  obtain ⟨x, hx⟩ : ∃ x, v.kids[k]? = some x := ⟨v.kids[k], by simp [h19]⟩
  have hx' := qPL (ch := ch) hx
  have hkl := qPK ch v k
  have hix := ih x (List.mem_of_getElem? hx)
  have hset := qPJ (ch := ch) hx
  simp only [Val.enc_def] at hx' hix hset
  refine AW.skip ?_
  refine AW.seq ?_
  refine AW.block ?_
  refine rgn [x.enc] [[], [], [], [], [], [1, 2, 4, 5, 6, 16, 17, 18]] ?_
  iterate 6 refine op1 tok ?_ (hv := by first | with_reducible exact True.intro | (simpa using hx'; done) | omega | simp | (simp +contextual; omega))
  refine qA ?_
  refine AW.runDrawK tok mixed [1, 2, 4, 16, 17, 18] 6 [[2], [23], [5], [6], [1], [26, 27]] [.nilp, (qBA ch x).enc] [x.enc, (qBA ch x).enc] (by kernel_rfl) (by intro C; conv => lhs; simp) (by first | exact hix | ((repeat' (first | with_reducible apply And.intro | intro _)) <;> first | exact (hix) | exact (hx') | assumption | omega | contradiction | simp_all)) (by simp [Sm.sum, Sm.foot, Sm.tch, Sm.refs]; kernel_rfl) (by intro C; conv => lhs; simp) (by exact ⟨by omega, hx'⟩) ?_
  refine rgz [] [[], [1, 2, 4, 16, 17, 18]] ?_
  iterate 2 refine op1 tok ?_
  refine qA ?_
  exact ⟨k + 1, (by omega), (by omega), qB (by simp [hset]), rfl, by simp [hset], by simp [hset]⟩
 ·intro h19
  try simp at h19
  obtain rfl : k = v.kids.length := by omega
  have hfull : xG ch v v.kids.length = (v.kids.map (qBA ch)).map Val.enc := by simp only [xG, List.take_length, List.drop_length, List.map_nil, List.append_nil, List.map_map]; rfl
  rw [hfull]
  refine AW.exit ?_
  simp
  refine rgn [] [[]] ?_
  refine op1 tok ?_
  refine qX ?_
  refine qC.freeze 9 (by conv => lhs; simp) ?_
  refine qC.freeze 12 (by conv => lhs; simp) ?_
  refine qC.stepK [2, 4] (yG rfl (hg (.mk v.kind v.mask v.num v.text v.keys (v.kids.map (qBA ch)) v.code)) (by simp)) (by conv => lhs; simp) rfl ?_
  refine qC.nil ?_
  refine rgn [] [[], [4]] ?_
  iterate 2 refine op1 tok ?_
  refine qA ?_
  exact AW.ret (qJ (k := by simp [qMZ ch v]))
inductive Few : Val → Prop
 | mk {v : Val} (h1 : v.keys.length ≤ 1000000) (h2 : v.kids.length ≤ 1000000) (h3 : ∀ k ∈ v.kids, Few k) : Few v
theorem qNC (v : Val) (h : qQ v = true) : Few v :=
 Val.induct (p := fun v => qQ v = true → Few v) (fun v ih hv => by
  have hsm := yU hv
  exact .mk (by omega) (by omega) fun k hk => ih k hk (wJ hv hk)) v h
theorem qPD (g : FuncId) (ch : Val → Val) (hg : ∀ u : Val, AX Tryz.prog G g [.ptr 2 0] [(2, .vars 31 u.cells)] (.tuple []) [2] [(2, .vars 31 (ch u).cells)]) (v : Val) (hv : Few v) : AFn Tryz.prog G 134 [v.enc, .fn g] (qBA ch v).enc := by
 induction hv with
 | mk h1 h2 h3 ih => exact qZT g ch _ hg ⟨h1, h2⟩ ih
theorem zIP (g : FuncId) (ch : Val → Val) (hg : ∀ u : Val, AX Tryz.prog G g [.ptr 2 0] [(2, .vars 31 u.cells)] (.tuple []) [2] [(2, .vars 31 (ch u).cells)]) (v : Val) (hv : qQ v = true) : AFn Tryz.prog G 134 [v.enc, .fn g] (qBA ch v).enc :=
 qPD g ch hg v (qNC v hv)
theorem qUK (u : Val) : AX Tryz.prog G 135 [.ptr 2 0] [(2, .vars 31 u.cells)] (.tuple []) [2] [(2, .vars 31 (id u).cells)] := by
 refine AX.introU tok 900 Tryz.func135 (by kernel_rfl) rfl rfl ?_
 simp only [Tryz.f135, qI, List.map_cons, List.map_nil]
 refine AW.skip ?_
 exact zGA
theorem qUJ (v : Val) (hv : Few v) : AFn Tryz.prog G 78 [v.enc] (v.enc) := by
 refine AFn.introU tok Tryz.func78 (by kernel_rfl) rfl rfl ?_
 simp only [Tryz.f78, qI, List.map_cons, List.map_nil]
 have hm := qPD (G := G) 135 id qUK v hv
 rw [qWG] at hm
 simp only [Val.enc_def] at hm
 refine rgn [] [[], [1, 2]] ?_
 iterate 2 refine op1 tok ?_
 refine qA ?_
 refine rgn [.nilp, v.enc] [[], [], [2]] ?_
 iterate 3 refine op1 tok ?_ (hv := by first | with_reducible exact True.intro | (exact hm; done) | omega | simp | (simp +contextual; omega))
 refine qA ?_
 exact AW.ret qJ
theorem zBF (v : Val) (hv : qQ v = true) : AFn Tryz.prog G 78 [v.enc] v.enc := qUJ v (qNC v hv)
theorem zJC (v : Val) (ih : ∀ k ∈ v.kids, AFn Tryz.prog G 31 [k.enc] (.int .u64 (qM k))) : AFn Tryz.prog G 31 [v.enc] (.int .u64 (qM v)) := by
 refine AFn.introU tok Tryz.func31 (by kernel_rfl) rfl rfl ?_
 simp only [Tryz.f31, qI, List.map_cons, List.map_nil]
 refine rgn [] [[], [1]] ?_
 iterate 2 refine op1 tok ?_
 refine qA ?_
 refine rgn [] [[], [], [1, 3]] ?_
 iterate 3 refine op1 tok ?_
 refine qA ?_
 refine AW.seq ?_
 refine rgn [] [[], [], [], [3, 9, 10, 11]] ?_
 iterate 4 refine op1 tok ?_
 refine qA ?_
 refine AW.block ?_
 refine AW.intFactU (i := 10) rfl (by decide) ?_; intro hlen; simp at hlen
 refine AW.loop (α := Nat) (fun k => k ≤ v.kids.length) (fun k => ⟨qY 21 [(3, .p (.int .u64 (kN v.mask (v.kids.take k)))), (9, .p (.sl 9 (v.kids.map Val.enc))), (10, .p (.int .i64 v.kids.length)), (11, .p (.int .i64 k))], [], [], 0⟩) (fun k => v.kids.length - k) (0) (by omega) ⟨qB (by simp), rfl, by simp, by simp⟩ ?_
 rintro k hk
 refine rgn [] [[]] ?_
 refine op1 tok ?_
 refine qA ?_
 refine AW.seq ?_
 refine cnd ?_ ?_
 ·intro h12
  try simp at h12
  obtain ⟨x, hx⟩ : ∃ x, v.kids[k]? = some x := ⟨v.kids[k], by simp [h12]⟩
  have hix := ih x (List.mem_of_getElem? hx)
  simp only [Val.enc_def] at hix
  refine AW.skip ?_
  refine AW.seq ?_
  refine AW.block ?_
  refine rgn [x.enc] [[], [], [], [3, 5, 9, 10, 11]] ?_
  iterate 4 refine op1 tok ?_ (hv := by first | with_reducible exact True.intro | (simp [hx]; done) | omega | simp | (simp +contextual; omega))
  refine qA ?_
  refine rgz [.nilp, .int .u64 (qM x)] [[], [], [], [9, 10, 11, 18], [3, 9, 10, 11]] ?_
  iterate 5 refine op1 tok ?_ (h := by intro C; conv => lhs; simp [wI]) (hv := by first | with_reducible exact True.intro | (exact hix; done) | omega | simp | (simp +contextual; omega))
  refine qA ?_
  refine rgz [] [[], [3, 9, 10, 11]] ?_
  iterate 2 refine op1 tok ?_
  refine qA ?_
  exact ⟨k + 1, by omega, by omega, qB (by simp [uH hx]), rfl, by simp [uH hx], by simp [uH hx]⟩
 ·intro h12
  try simp at h12
  rw [List.take_of_length_le h12]
  refine AW.exit ?_
  simp
  refine rgn [] [[], [2]] ?_
  iterate 2 refine op1 tok ?_
  refine qA ?_
  exact AW.ret (qJ (k := by simp [jX v]))
theorem yC (v : Val) : AFn Tryz.prog G 31 [v.enc] (.int .u64 (qM v)) := Val.induct (fun v ih => zJC v ih) v
theorem zEW (v : Val) (m : Int) (hv : qQ v = true) : AFn Tryz.prog G 76 [v.enc, .int .u64 m] ((xC v m).enc) := by
 refine AFn.introU tok Tryz.func76 (by kernel_rfl) rfl rfl ?_
 simp only [Tryz.f76, qI, List.map_cons, List.map_nil]
 have hm := zBF (G := G) v hv
 simp only [Val.enc_def] at hm
 refine rgn [] [[], [1, 2, 4]] ?_
 iterate 2 refine op1 tok ?_
 refine qA ?_
 refine rgn [.nilp, v.enc] [[], [], [1, 2, 4]] ?_
 iterate 3 refine op1 tok ?_ (hv := by first | with_reducible exact True.intro | (exact hm; done) | omega | simp | (simp +contextual; omega))
 refine qA ?_
 refine rgn [] [[], [], [], [2, 4, 10], [], [2, 4]] ?_
 iterate 6 refine op1 tok ?_ (h := by intro C; conv => lhs; simp [wI])
 refine qA ?_
 refine rgn [] [[], [4]] ?_
 iterate 2 refine op1 tok ?_
 refine qA ?_
 exact AW.ret qJ
open Go
open Go.Lib
def qRI (n : Nat) : UInt8 := if n < 10 then UInt8.ofNat (48 + n) else UInt8.ofNat (87 + n)
def qb (b : UInt8) : List UInt8 :=
 if b = 34 ∨ b = 92 then [92, b] else if b = 10 then [92, 110] else if b = 13 then [92, 114] else if b = 9 then [92, 116]
 else if b < 32 ∨ b = 127 then [92, 117, 48, 48, qRI (b.toNat / 16), qRI (b.toNat % 16)] else [b]
def uR (s : List UInt8) : List UInt8 := s.flatMap qb
def kZ (s : List UInt8) : List UInt8 := 34 :: (uR s ++ [34])
def zZG (c : UInt8) : Option Nat := if 48 ≤ c ∧ c ≤ 57 then some (c.toNat - 48) else if 97 ≤ c ∧ c ≤ 102 then some (c.toNat - 87) else if 65 ≤ c ∧ c ≤ 70 then some (c.toNat - 55) else none
def zXT : List UInt8 → Nat → Option Nat
 | [], x => some x
 | c :: l, x => match zZG c with
  | none => none
  | some k => zXT l (16 * x + k)
def qRZ (s : List UInt8) : Option Nat := if s.length < 6 ∨ s.take 2 ≠ [92, 117] then none else zXT ((s.drop 2).take 4) 0
def zXX (c : UInt8) : Option Nat := if c = 34 then some 34 else if c = 92 then some 92 else if c = 47 then some 47 else if c = 98 then some 8 else if c = 102 then some 12 else if c = 110 then some 10 else if c = 114 then some 13 else if c = 116 then some 9 else none
def zXW (u w : Option Nat) : Nat × Nat × Bool :=
 if u.isSome = false ∨ u.getD 0 / 1024 ≠ 54 then (u.getD 0, 6, u.isSome && decide (u.getD 0 / 1024 ≠ 55)) else (65536 + u.getD 0 % 1024 * 1024 + w.getD 0 % 1024, 12, w.isSome && decide (w.getD 0 / 1024 = 55))
def zAI (s : List UInt8) : Nat × Nat × Bool := match s with
 | _ :: c :: _ => match zXX c with
  | some v => (v, 2, true)
  | none => zXW (qRZ s) (qRZ (s.drop 6))
 | _ => (0, 0, false)
def zND (s : List UInt8) : Option (Nat × Nat) := if (zAI s).2.2 = true then some ((zAI s).1, (zAI s).2.1) else none
def vZ : Nat → List UInt8 → Nat → List UInt8 → List UInt8 × Nat × Int
 | 0, _, _, _ => ([], 0, 6)
 | f + 1, s, at', out => if s = [] then ([], 0, 6)
  else if (decodeL s).1 = 34 then (if 4096 < out.length then ([], 0, 3) else (out, at' + 1, 0))
  else if (decodeL s).1 < 32 ∨ ((decodeL s).1 = 65533 ∧ (decodeL s).2 = 1) then ([], 0, 6)
  else if (decodeL s).1 = 92 then (match zND s with
   | none => ([], 0, 6)
   | some (c, n) => vZ f (s.drop n) (at' + n) (out ++ encodeRune c))
  else vZ f (s.drop (decodeL s).2) (at' + (decodeL s).2) (out ++ encodeRune (decodeL s).1)
def zH (s : List UInt8) : List UInt8 × Nat × Int := if s.head? = some 34 then vZ s.length (s.drop 1) 1 [] else ([], 0, 6)
theorem qPZ {b : UInt8} {t : List UInt8} (h : b.toNat < 128) : decodeL (b :: t) = (b.toNat, 1) := by
 unfold decodeL
 rw [decode_at]
 have e : (⟨(b :: t).toArray⟩ : ByteArray).get! 0 = b := rfl
 rw [e]
 unfold decodeN
 rw [if_pos h]
theorem zMA {b : UInt8} (h : b.toNat < 128) : encodeRune (b.toNat : Int) = [b] := by
 simp only [encodeRune, encodeRuneZ_one (r := (b.toNat : Int)) (by omega) (by omega), List.map_cons, List.map_nil]
 congr 1
 simp
theorem zAT (l : List UInt8) : decodeL l = decodeN l.length (l.getD 0 0).toNat (l.getD 1 0).toNat (l.getD 2 0).toNat (l.getD 3 0).toNat := by
 unfold decodeL
 rw [decode_at]
 have e : ∀ k, (⟨l.toArray⟩ : ByteArray).get! k = l.getD k 0 := by
  intro k
  show l.toArray[k]! = _
  simp [List.getD_eq_getElem?_getD]
  rfl
 simp only [e]
 rfl
theorem zJM (l : List UInt8) (hne : l ≠ []) (hv : ¬ ((decodeL l).1 = 65533 ∧ (decodeL l).2 = 1)) (hb : 128 ≤ (l.getD 0 0).toNat) : (∀ b ∈ l.take (decodeL l).2, 128 ≤ b.toNat) ∧ 128 ≤ (decodeL l).1 := by
 have hr := zAT l
 have hle := decodeL_le l hne
 have hlen : 0 < l.length := by cases l with
  | nil => exact absurd rfl hne
  | cons a l => simp
 unfold decodeN at hr
 rw [if_neg (by omega)] at hr
 split at hr
 ·rename_i c
  split at hr
  ·rw [hr] at hv hle ⊢
   simp only at hle ⊢
   rw [takeB l (by omega)]
   refine ⟨fun b hb' => ?_, by omega⟩
   simp at hb'
   rcases hb' with h | h <;> (subst h; simp at hb c; omega)
  ·rw [hr] at hv; exact absurd ⟨rfl, rfl⟩ hv
 ·split at hr
  ·rename_i c
   split at hr
   ·rw [hr] at hv hle ⊢
    simp only at hle ⊢
    rw [takeC l (by omega)]
    refine ⟨fun b hb' => ?_, by omega⟩
    simp at hb'
    rcases hb' with h | h | h <;> (subst h; simp at hb c; omega)
   ·rw [hr] at hv; exact absurd ⟨rfl, rfl⟩ hv
  ·split at hr
   ·rename_i c
    split at hr
    ·rw [hr] at hv hle ⊢
     simp only at hle ⊢
     rw [takeD l (by omega)]
     refine ⟨fun b hb' => ?_, by omega⟩
     simp at hb'
     rcases hb' with h | h | h | h <;> (subst h; simp at hb c; omega)
    ·rw [hr] at hv; exact absurd ⟨rfl, rfl⟩ hv
   ·rw [hr] at hv; exact absurd ⟨rfl, rfl⟩ hv
theorem qVU (a b : List UInt8) : uR (a ++ b) = uR a ++ uR b := by simp [uR]
def vN (s : List UInt8) : Bool := decide (0 < s.length) && decide (qT s 0 = 45)
def qIZ (s : List UInt8) (k : Nat) (digits : List UInt8) : Option (Nat × List UInt8 × Nat) :=
 if k < s.length ∧ qT s k = 46 then (if wK s (k + 1) = 0 then none else some (k + 1 + wK s (k + 1), digits ++ (s.take (k + 1 + wK s (k + 1))).drop (k + 1), wK s (k + 1))) else some (k, digits, 0)
def upM (s : List UInt8) (k : Nat) : Nat → Int
 | 0 => 0
 | i + 1 => 10 * upM s k i + (qT s (k + i) - 48)
def kJ (s : List UInt8) (k : Nat) : Nat := if k < s.length ∧ (qT s k = 45 ∨ qT s k = 43) then k + 1 else k
def qLV (s : List UInt8) (k : Nat) : Option (Nat × Int) :=
 if k < s.length ∧ (qT s k = 101 ∨ qT s k = 69) then
  (if wK s (kJ s (k + 1)) < 1 ∨ 2 < wK s (kJ s (k + 1)) then none
   else some (kJ s (k + 1) + wK s (kJ s (k + 1)), if k + 1 < s.length ∧ qT s (k + 1) = 45 then - upM s (kJ s (k + 1)) (wK s (kJ s (k + 1))) else upM s (kJ s (k + 1)) (wK s (kJ s (k + 1)))))
 else some (k, 0)
def xP : Dc × Int := (⟨false, [], 0⟩, 4)
def vQ (neg : Bool) (digits : List UInt8) (sc : Int) : Dc × Int := if sc < 0 then yL neg (digits ++ wD (-sc).toNat) 0 else yL neg digits sc.toNat
def qFD (s : List UInt8) (neg : Bool) (digits : List UInt8) (scale : Nat) : Option (Nat × Int) → Dc × Int
 | none => xP
 | some (k, up) => if k = s.length then vQ neg digits (scale - up) else xP
def qYJ (s : List UInt8) (neg : Bool) : Option (Nat × List UInt8 × Nat) → Dc × Int
 | none => xP
 | some (k, digits, scale) => qFD s neg digits scale (qLV s k)
def a0M (s : List UInt8) : Nat := if vN s = true then 1 else 0
def vB (s : List UInt8) : Dc × Int :=
 if wK s (a0M s) = 0 ∨ (1 < wK s (a0M s) ∧ qT s (a0M s) = 48) then xP
 else qYJ s (vN s) (qIZ s (a0M s + wK s (a0M s)) ((s.take (a0M s + wK s (a0M s))).drop (a0M s)))
theorem qVO (s : List UInt8) (k : Nat) (h : k ≤ s.length) : k + wK s k ≤ s.length := by
 unfold wK
 have := (List.takeWhile_sublist (l := s.drop k) fun b : UInt8 => kS b.toNat).length_le
 simp at this; omega
theorem qYU {s : List UInt8} {k : Nat} (h : 0 < wK s k) : k < s.length := ((qVM (Nat.zero_le _)).1 h).1
theorem qDS {s : List UInt8} {k i : Nat} (h : i < wK s k) : k + i < s.length ∧ 48 ≤ qT s (k + i) ∧ qT s (k + i) ≤ 57 := by
 have := (qVM (Nat.le_of_lt h)).1 h
 simpa [kS] using this
theorem zHC {s : List UInt8} {k : Nat} : ∀ {i : Nat}, i ≤ 2 → i ≤ wK s k → 0 ≤ upM s k i ∧ upM s k i ≤ 99 ∧ (i ≤ 1 → upM s k i ≤ 9)
 | 0, _, _ => by simp [upM]
 | 1, _, h => by have := qDS (s := s) (k := k) (i := 0) (by omega); simp [upM] at this ⊢; omega
 | 2, _, h => by
  have h1 := qDS (s := s) (k := k) (i := 0) (by omega)
  have h2 := qDS (s := s) (k := k) (i := 1) (by omega)
  simp [upM] at h1 h2 ⊢; omega
theorem zOM (s : List UInt8) : a0M s ≤ 1 := by unfold a0M; split <;> omega
theorem zBU (s : List UInt8) (hs : s.length ≤ 100000) : AFn Tryz.prog G 26 [.str s] (.tup [(vB s).1.enc, .int .i64 (vB s).2]) := by
 refine AFn.introU tok Tryz.func26 (by kernel_rfl) rfl rfl ?_
 simp only [Tryz.f26, qI, List.map_cons, List.map_nil]
 have hrun := fun k hk => zSR (G := G) s k (by omega) hk
 have hix : ∀ k : Nat, k < s.length → s[k]? = some (s.getD k 0) := fun k h => jY h
 refine rgn [] [[], [0, 2]] ?_
 iterate 2 refine op1 tok ?_
 refine qA ?_
 refine rgn [] [[]] ?_
 refine op1 tok ?_
 refine qA ?_
 refine rgn [.int .u8 (qT s 0)] [[], [], [], [], [], [0, 2, 4, 15, 17], [], [], [0, 2, 4, 5]] ?_
 iterate 4 refine op1 tok ?_ (hv := by first | with_reducible exact True.intro | (first | exact fun h => ⟨h, by omega, _, hix 0 (by omega), rfl⟩ | exact fun h => ⟨h, _, hix 0 (by omega), rfl⟩ | simp; done) | omega | simp | (simp +contextual; omega))
 iterate 3 refine op2 tok ?_ (hv := by first | with_reducible exact True.intro | (first | exact fun h => ⟨h, by omega, _, hix 0 (by omega), rfl⟩ | exact fun h => ⟨h, _, hix 0 (by omega), rfl⟩ | simp; done) | omega | simp | (simp +contextual; omega))
 iterate 2 refine op1 tok ?_ (hv := by first | with_reducible exact True.intro | (first | exact fun h => ⟨h, by omega, _, hix 0 (by omega), rfl⟩ | exact fun h => ⟨h, _, hix 0 (by omega), rfl⟩ | simp; done) | omega | simp | (simp +contextual; omega))
 refine qA ?_
 refine AW.join (α := Unit) (fun _ => True) (fun a => ⟨qY 175 [(0, .p (.str s)), (2, .ptr 2 0), (4, .p (.int .i64 (a0M s))), (5, .p (.bool (vN s)))], [], [(2, .vars 26 [.p (.bool false), .p (.str []), .p (.int .i64 0)])], 0⟩) ?_ ?_
 ·
  refine rgn [] [[]] ?_
  refine op1 tok ?_
  refine qA ?_
  refine cnd ?_ ?_
  ·intro h20
   try simp at h20
   refine rgz [] [[]] ?_
   refine op1 tok ?_
   refine qA ?_
   exact ⟨(), trivial, qB (by simp [a0M, vN, h20]), rfl, by simp [a0M, vN, h20], by simp [a0M, vN, h20]⟩
  ·intro h20
   try simp at h20
   have hneg : vN s = false := by
    rw [← Bool.not_eq_true]; intro h; simp only [vN, Bool.and_eq_true, decide_eq_true_eq] at h; exact h20 h.1 h.2
   have hneg0 := hneg
   have ha00 : a0M s = 0 := by simp [a0M, hneg]
   simp only [vN] at hneg0
   refine AW.skip ?_
   exact ⟨(), trivial, qB (by simp [ha00, hneg0, hneg]), rfl, by simp [ha00, hneg0, hneg], by simp [ha00, hneg0, hneg]⟩
 ·
  rintro a hI
  have ha0 := zOM s
  have hn0 := qVN s (a0M s)
  have hp0 := qYU (s := s) (k := a0M s)
  have hin0 := qVO s (a0M s)
  refine rgn [.nilp, .int .i64 (wK s (a0M s))] [[], [], [], [0, 2, 4, 5, 6]] ?_
  iterate 4 refine op1 tok ?_ (hv := by first | with_reducible exact True.intro | (simp [hrun (a0M s) (by have := zOM s; omega)]; done) | omega | simp | (simp +contextual; omega))
  refine qA ?_
  refine AW.seq ?_
  refine rgn [.int .u8 (qT s (a0M s))] [[], [], [], [], [], [0, 2, 4, 5, 6, 26, 29], [], [], [], [], [0, 2, 4, 5, 6, 26, 34], [0, 2, 4, 5, 6, 35]] ?_
  iterate 3 refine op1 tok ?_ (hv := by first | with_reducible exact True.intro | (first | exact fun h1 h2 => ⟨⟨h1, h2⟩, _, hix (a0M s) (hp0 (by omega)), rfl⟩ | exact fun h1 => ⟨h1, fun h2 => ⟨h1, h2⟩⟩ | simp; done) | omega | simp | (simp +contextual; omega))
  iterate 8 refine op2 tok ?_ (hv := by first | with_reducible exact True.intro | (first | exact fun h1 h2 => ⟨⟨h1, h2⟩, _, hix (a0M s) (hp0 (by omega)), rfl⟩ | exact fun h1 => ⟨h1, fun h2 => ⟨h1, h2⟩⟩ | simp; done) | omega | simp | (simp +contextual; omega))
  refine op1 tok ?_ (hv := by first | with_reducible exact True.intro | (first | exact fun h1 h2 => ⟨⟨h1, h2⟩, _, hix (a0M s) (hp0 (by omega)), rfl⟩ | exact fun h1 => ⟨h1, fun h2 => ⟨h1, h2⟩⟩ | simp; done) | omega | simp | (simp +contextual; omega))
  refine qA ?_
  refine cnd ?_ ?_
  ·intro h35
   try simp at h35
   have hP : vB s = xP := by unfold vB; rw [if_pos (by omega)]
   refine rgn [] [[], [], [2, 3]] ?_
   iterate 3 refine op1 tok ?_
   refine qA ?_
   exact AW.ret (qJ (k := by simp [hP, xP]))
  ·intro h35
   try simp at h35
   have hP : vB s = qYJ s (vN s) (qIZ s (a0M s + wK s (a0M s)) ((s.take (a0M s + wK s (a0M s))).drop (a0M s))) := by unfold vB; rw [if_neg (by omega)]
   rw [hP]
   have hin := hin0 (by have := hp0 (by omega); omega)
   generalize hdg : (s.take (a0M s + wK s (a0M s))).drop (a0M s) = dg0
   have hdgl : dg0.length ≤ s.length := by rw [← hdg]; simp; omega
   obtain ⟨k1, hk1⟩ : ∃ k1, k1 = a0M s + wK s (a0M s) := ⟨_, rfl⟩
   rw [← hk1] at hin hdg ⊢
   refine AW.skip ?_
   refine rgn [] [[], [], [], [], [], [0, 2, 4, 5, 6, 42], [0, 2, 4, 5, 6, 7]] ?_
   iterate 7 refine op1 tok ?_ (hv := by first | with_reducible exact True.intro | (omega; done) | omega | simp | (simp +contextual; omega))
   refine qA ?_
   refine rgn [] [[], [], [0, 2, 5, 7, 45], [0, 2, 4, 5, 7]] ?_
   iterate 4 refine op1 tok ?_
   refine qA ?_
   rw [show ((a0M s : Int) + (wK s (a0M s) : Nat)) = (k1 : Nat) by omega]
   refine rgn [] [[]] ?_
   refine op1 tok ?_
   refine qA ?_
   refine AW.join (α := Nat × List UInt8 × Nat) (fun a => qIZ s k1 dg0 = some a ∧ a.1 ≤ s.length ∧ a.2.1.length ≤ 200000 ∧ a.2.2 ≤ s.length) (fun a => ⟨qY 175 [(0, .p (.str s)), (2, .ptr 2 0), (4, .p (.int .i64 a.1)), (5, .p (.bool (vN s))), (7, .p (.str a.2.1)), (8, .p (.int .i64 a.2.2))], [], [(2, .vars 26 [.p (.bool false), .p (.str []), .p (.int .i64 0)])], 0⟩) ?_ ?_
   ·
    have hr1 := qVO s (k1 + 1)
    refine rgn [.int .u8 (qT s k1)] [[], [], [], [], [0, 2, 4, 5, 7, 8, 50], [], [], [], [], [0, 2, 4, 5, 7, 8, 55]] ?_
    iterate 5 refine op1 tok ?_ (hv := by first | with_reducible exact True.intro | (first | exact fun h => ⟨h, _, hix k1 (by omega), rfl⟩ | simp; done) | omega | simp | (simp +contextual; omega))
    iterate 4 refine op2 tok ?_ (hv := by first | with_reducible exact True.intro | (first | exact fun h => ⟨h, _, hix k1 (by omega), rfl⟩ | simp; done) | omega | simp | (simp +contextual; omega))
    refine op1 tok ?_ (hv := by first | with_reducible exact True.intro | (first | exact fun h => ⟨h, _, hix k1 (by omega), rfl⟩ | simp; done) | omega | simp | (simp +contextual; omega))
    refine qA ?_
    refine cnd ?_ ?_
    ·intro h55
     try simp at h55
     refine rgn [.nilp, .int .i64 (wK s (k1 + 1))] [[], [], [], [], [0, 2, 4, 5, 7, 8]] ?_
     iterate 5 refine op1 tok ?_ (hv := by first | with_reducible exact True.intro | (first | omega | exact hrun (k1 + 1) (by omega); done) | omega | simp | (simp +contextual; omega))
     refine qA ?_
     refine AW.seq ?_
     refine rgn [] [[], [0, 2, 4, 5, 7, 8, 61]] ?_
     iterate 2 refine op1 tok ?_
     refine qA ?_
     refine cnd ?_ ?_
     ·intro h61
      try simp at h61
      have hP2 : qIZ s k1 dg0 = none := by simp [qIZ, h55.1, h55.2, h61]
      refine rgn [] [[], [], [2, 3]] ?_
      iterate 3 refine op1 tok ?_
      refine qA ?_
      exact AW.ret (qJ (k := by simp [hP2, qYJ, xP]))
     ·intro h61
      try simp at h61
      refine AW.skip ?_
      refine rgn [] [[], [], [], [], [], [], [], [0, 2, 4, 5, 8, 63, 64, 66, 70], [], [0, 2, 4, 5, 8, 72], [0, 2, 4, 5, 7, 8]] ?_
      iterate 11 refine op1 tok ?_
      refine qA ?_
      refine rgz [] [[], [], [], [0, 2, 5, 7, 8, 76], [0, 2, 4, 5, 7, 8]] ?_
      iterate 5 refine op1 tok ?_
      refine qA ?_
      exact ⟨(k1 + 1 + wK s (k1 + 1), dg0 ++ (s.take (k1 + 1 + wK s (k1 + 1))).drop (k1 + 1), wK s (k1 + 1)), ⟨by simp [qIZ, h55.1, h55.2, h61], hr1 (by omega), by simp; omega, by have := hr1 (by omega); show wK s (k1 + 1) ≤ s.length; omega⟩, qB (by simp [hdg, show ((k1 : Int) + 1 + (wK s (k1 + 1) : Nat)).toNat = k1 + 1 + wK s (k1 + 1) from by omega]), rfl, by simp [hdg, show ((k1 : Int) + 1 + (wK s (k1 + 1) : Nat)).toNat = k1 + 1 + wK s (k1 + 1) from by omega], by simp [hdg, show ((k1 : Int) + 1 + (wK s (k1 + 1) : Nat)).toNat = k1 + 1 + wK s (k1 + 1) from by omega]⟩
    ·intro h55
     try simp at h55
     refine AW.skip ?_
     exact ⟨(k1, dg0, 0), ⟨by simp only [qIZ]; rw [if_neg (by intro h; exact h55 h.1 h.2)], hin, by show dg0.length ≤ 200000; omega, by simp⟩, qB (by simp [hdg]), rfl, by simp [hdg], by simp [hdg]⟩
   ·
    rintro ⟨k, digits, scale⟩ ⟨hp2, hk, hdl, hsc⟩
    simp only at hk hdl hsc
    have hT : qYJ s (vN s) (qIZ s k1 dg0) = qFD s (vN s) digits scale (qLV s k) := by rw [hp2]; rfl
    rw [hT]
    have hix1 : (k : Int) + 1 < s.length → s[((k : Int) + 1).toNat]? = some (s.getD (k + 1) 0) := fun h => by rw [show ((k : Int) + 1).toNat = k + 1 by omega]; exact hix (k + 1) (by omega)
    refine rgn [] [[]] ?_
    refine op1 tok ?_
    refine qA ?_
    refine AW.join (α := Nat × Int) (fun b => qLV s k = some b ∧ b.1 ≤ 300000 ∧ -99 ≤ b.2 ∧ b.2 ≤ 99) (fun b => ⟨qY 175 [(0, .p (.str s)), (2, .ptr 2 0), (4, .p (.int .i64 b.1)), (5, .p (.bool (vN s))), (7, .p (.str digits)), (8, .p (.int .i64 scale)), (9, .p (.int .i64 b.2))], [], [(2, .vars 26 [.p (.bool false), .p (.str []), .p (.int .i64 0)])], 0⟩) ?_ ?_
    ·
     refine rgn [.int .u8 (qT s k), .int .u8 (qT s k)] [[], [], [], [], [0, 2, 4, 5, 7, 8, 9, 81], [], [], [], [], [0, 2, 4, 5, 7, 8, 9, 81, 86], [], [], [], [], [0, 2, 4, 5, 7, 8, 9, 81, 91], [0, 2, 4, 5, 7, 8, 9, 92]] ?_
     iterate 5 refine op1 tok ?_ (hv := by first | with_reducible exact True.intro | (((repeat' (first | with_reducible apply And.intro | intro _)) <;> first | omega | assumption | contradiction | exact ⟨_, hix _ (by omega), rfl⟩ | simp_all); done) | omega | simp | (simp +contextual; omega))
     iterate 10 refine op2 tok ?_ (hv := by first | with_reducible exact True.intro | (((repeat' (first | with_reducible apply And.intro | intro _)) <;> first | omega | assumption | contradiction | exact ⟨_, hix _ (by omega), rfl⟩ | simp_all); done) | omega | simp | (simp +contextual; omega))
     refine op1 tok ?_ (hv := by first | with_reducible exact True.intro | (((repeat' (first | with_reducible apply And.intro | intro _)) <;> first | omega | assumption | contradiction | exact ⟨_, hix _ (by omega), rfl⟩ | simp_all); done) | omega | simp | (simp +contextual; omega))
     refine qA ?_
     refine cnd ?_ ?_
     ·intro h92
      try simp at h92
      refine rgn [] [[], [], [0, 2, 4, 5, 7, 8, 9]] ?_
      iterate 3 refine op1 tok ?_
      refine qA ?_
      refine rgn [.int .u8 (qT s (k + 1))] [[], [], [], [], [0, 2, 4, 5, 7, 8, 9, 99], [], [], [], [], [0, 2, 4, 5, 7, 8, 9, 104], [0, 2, 4, 5, 7, 8, 9, 10]] ?_
      iterate 5 refine op1 tok ?_ (hv := by first | with_reducible exact True.intro | (((repeat' (first | with_reducible apply And.intro | intro _)) <;> first | omega | assumption | contradiction | exact ⟨_, hix _ (by omega), rfl⟩ | simp_all); done) | omega | simp | (simp +contextual; omega))
      iterate 4 refine op2 tok ?_ (hv := by first | with_reducible exact True.intro | (((repeat' (first | with_reducible apply And.intro | intro _)) <;> first | omega | assumption | contradiction | exact ⟨_, hix _ (by omega), rfl⟩ | simp_all); done) | omega | simp | (simp +contextual; omega))
      iterate 2 refine op1 tok ?_ (hv := by first | with_reducible exact True.intro | (((repeat' (first | with_reducible apply And.intro | intro _)) <;> first | omega | assumption | contradiction | exact ⟨_, hix _ (by omega), rfl⟩ | simp_all); done) | omega | simp | (simp +contextual; omega))
      refine qA ?_
      refine AW.join (α := Unit) (fun _ => True) (fun a => ⟨qY 175 [(0, .p (.str s)), (2, .ptr 2 0), (4, .p (.int .i64 (kJ s (k + 1)))), (5, .p (.bool (vN s))), (7, .p (.str digits)), (8, .p (.int .i64 scale)), (9, .p (.int .i64 0)), (10, .p (.bool (decide (k + 1 < s.length) && decide (qT s (k + 1) = 45))))], [], [(2, .vars 26 [.p (.bool false), .p (.str []), .p (.int .i64 0)])], 0⟩) ?_ ?_
      ·
       refine rgn [.int .u8 (qT s (k + 1)), .int .u8 (qT s (k + 1))] [[], [], [], [], [0, 2, 4, 5, 7, 8, 9, 10, 109], [], [], [], [], [0, 2, 4, 5, 7, 8, 9, 10, 109, 114], [], [], [], [], [0, 2, 4, 5, 7, 8, 9, 10, 109, 119], [0, 2, 4, 5, 7, 8, 9, 10, 120]] ?_
       iterate 5 refine op1 tok ?_ (hv := by first | with_reducible exact True.intro | (((repeat' (first | with_reducible apply And.intro | intro _)) <;> first | omega | assumption | contradiction | exact ⟨_, hix _ (by omega), rfl⟩ | simp_all); done) | omega | simp | (simp +contextual; omega))
       iterate 10 refine op2 tok ?_ (hv := by first | with_reducible exact True.intro | (((repeat' (first | with_reducible apply And.intro | intro _)) <;> first | omega | assumption | contradiction | exact ⟨_, hix _ (by omega), rfl⟩ | simp_all); done) | omega | simp | (simp +contextual; omega))
       refine op1 tok ?_ (hv := by first | with_reducible exact True.intro | (((repeat' (first | with_reducible apply And.intro | intro _)) <;> first | omega | assumption | contradiction | exact ⟨_, hix _ (by omega), rfl⟩ | simp_all); done) | omega | simp | (simp +contextual; omega))
       refine qA ?_
       refine cnd ?_ ?_
       ·intro h120
        try simp at h120
        refine rgz [] [[], [], [0, 2, 4, 5, 7, 8, 9, 10]] ?_
        iterate 3 refine op1 tok ?_
        refine qA ?_
        exact ⟨(), trivial, qB (by simp [show kJ s (k + 1) = k + 1 + 1 from by (unfold kJ; rw [if_pos ⟨by omega, h120.2⟩]), show ((k : Int) + 1 < (s.length : Int)) = (k + 1 < s.length) from propext (by omega)]), rfl, by simp [show kJ s (k + 1) = k + 1 + 1 from by (unfold kJ; rw [if_pos ⟨by omega, h120.2⟩]), show ((k : Int) + 1 < (s.length : Int)) = (k + 1 < s.length) from propext (by omega)], by simp [show kJ s (k + 1) = k + 1 + 1 from by (unfold kJ; rw [if_pos ⟨by omega, h120.2⟩]), show ((k : Int) + 1 < (s.length : Int)) = (k + 1 < s.length) from propext (by omega)]⟩
       ·intro h120
        try simp at h120
        refine AW.skip ?_
        exact ⟨(), trivial, qB (by simp [show kJ s (k + 1) = k + 1 from by (unfold kJ; rw [if_neg (by intro h; have := h120 (by omega); omega)]), show ((k : Int) + 1 < (s.length : Int)) = (k + 1 < s.length) from propext (by omega)]), rfl, by simp [show kJ s (k + 1) = k + 1 from by (unfold kJ; rw [if_neg (by intro h; have := h120 (by omega); omega)]), show ((k : Int) + 1 < (s.length : Int)) = (k + 1 < s.length) from propext (by omega)], by simp [show kJ s (k + 1) = k + 1 from by (unfold kJ; rw [if_neg (by intro h; have := h120 (by omega); omega)]), show ((k : Int) + 1 < (s.length : Int)) = (k + 1 < s.length) from propext (by omega)]⟩
      ·
       rintro a hI
       have hsg : kJ s (k + 1) ≤ s.length + 1 := by unfold kJ; split <;> omega
       have hin3 := qVO s (kJ s (k + 1))
       have hp3 := qYU (s := s) (k := kJ s (k + 1))
       have hn3 := qVN s (kJ s (k + 1))
       obtain ⟨k3, hk3⟩ : ∃ k3, k3 = kJ s (k + 1) := ⟨_, rfl⟩
       rw [← hk3] at hsg hin3 hp3 hn3 ⊢
       refine rgn [.nilp, .int .i64 (wK s k3)] [[], [], [], [0, 2, 4, 5, 6, 7, 8, 9, 10]] ?_
       iterate 4 refine op1 tok ?_ (hv := by first | with_reducible exact True.intro | (exact hrun k3 (by omega); done) | omega | simp | (simp +contextual; omega))
       refine qA ?_
       refine AW.seq ?_
       refine rgn [] [[], [], [], [], [], [0, 2, 4, 5, 6, 7, 8, 9, 10, 131]] ?_
       iterate 3 refine op1 tok ?_
       iterate 2 refine op2 tok ?_
       refine op1 tok ?_
       refine qA ?_
       refine cnd ?_ ?_
       ·intro h131
        try simp at h131
        have hP3 : qLV s k = none := by simp only [qLV]; rw [if_pos h92, ← hk3, if_pos (by omega)]
        refine rgn [] [[], [], [2, 3]] ?_
        iterate 3 refine op1 tok ?_
        refine qA ?_
        exact AW.ret (qJ (k := by simp [hP3, qFD, xP]))
       ·intro h131
        try simp at h131
        have hP3 : qLV s k = some (k3 + wK s k3, if k + 1 < s.length ∧ qT s (k + 1) = 45 then - upM s k3 (wK s k3) else upM s k3 (wK s k3)) := by simp only [qLV]; rw [if_pos h92, ← hk3, if_neg (by omega)]
        have hk3l : k3 < s.length := hp3 (by omega)
        have hdig := fun i => qDS (s := s) (k := k3) (i := i)
        refine AW.skip ?_
        refine AW.seq ?_
        refine rgn [] [[]] ?_
        refine op1 tok ?_
        refine qA ?_
        refine AW.block ?_
        refine AW.loop (α := Nat) (fun i => i ≤ wK s k3) (fun i => ⟨qY 175 [(0, .p (.str s)), (2, .ptr 2 0), (4, .p (.int .i64 k3)), (5, .p (.bool (vN s))), (6, .p (.int .i64 (wK s k3))), (7, .p (.str digits)), (8, .p (.int .i64 scale)), (9, .p (.int .i64 (upM s k3 i))), (10, .p (.bool (decide (k + 1 < s.length) && decide (qT s (k + 1) = 45)))), (11, .p (.int .i64 i))], [], [(2, .vars 26 [.p (.bool false), .p (.str []), .p (.int .i64 0)])], 0⟩) (fun i => wK s k3 - i) (0) (by omega) ⟨qB (by simp [upM]), rfl, by simp, by simp⟩ ?_
        rintro i hi
        have hup := zHC (s := s) (k := k3) (i := i) (by omega) hi
        refine AW.seq ?_
        refine rgn [] [[], [], [0, 2, 4, 5, 6, 7, 8, 9, 10, 11, 135]] ?_
        iterate 3 refine op1 tok ?_
        refine qA ?_
        refine cnd ?_ ?_
        ·intro h135
         try simp at h135
         have hdi := hdig i h135
         have hw : IntKind.u8.wrap (qT s (k3 + i) - 48) = qT s (k3 + i) - 48 := by simp [IntKind.wrap, IntKind.bits, IntKind.signed]; omega
         refine AW.skip ?_
         refine AW.seq ?_
         refine AW.block ?_
         refine rgz [.int .u8 (qT s (k3 + i))] [[], [], [], [], [], [0, 2, 4, 5, 6, 7, 8, 10, 11, 139, 140, 143], [], [], [0, 2, 4, 5, 6, 7, 8, 10, 11, 139, 146], [], [0, 2, 4, 5, 6, 7, 8, 9, 10, 11]] ?_
         iterate 11 refine op1 tok ?_ (hv := by first | with_reducible exact True.intro | (((repeat' (first | with_reducible apply And.intro | intro _)) <;> first | omega | assumption | contradiction | exact ⟨_, hix _ (by omega), rfl⟩ | (rw [hw]; omega) | simp_all); done) | omega | simp | (simp +contextual; omega))
         refine qA ?_
         refine rgz [] [[], [], [0, 2, 4, 5, 6, 7, 8, 9, 10, 11]] ?_
         iterate 3 refine op1 tok ?_
         refine qA ?_
         exact ⟨i + 1, by omega, by omega, qB (by simp [upM, hw]), rfl, by simp [upM, hw], by simp [upM, hw]⟩
        ·intro h135
         try simp at h135
         have hi2 : i = wK s k3 := by omega
         subst hi2
         have hup2 := hin3 (by omega)
         have hw2 : IntKind.i64.wrap (- upM s k3 (wK s k3)) = - upM s k3 (wK s k3) := by simp [IntKind.wrap, IntKind.bits, IntKind.signed]; omega
         refine AW.exit ?_
         simp
         refine rgn [] [[], [], [0, 2, 5, 7, 8, 9, 10, 150], [0, 2, 4, 5, 7, 8, 9, 10]] ?_
         iterate 4 refine op1 tok ?_
         refine qA ?_
         refine rgn [] [[0, 2, 4, 5, 7, 8, 9, 151]] ?_
         refine op1 tok ?_
         refine qA ?_
         refine cnd ?_ ?_
         ·intro h151
          try simp at h151
          rw [if_pos h151] at hP3
          refine rgz [] [[], [], [0, 2, 4, 5, 7, 8, 9]] ?_
          iterate 3 refine op1 tok ?_
          refine qA ?_
          exact ⟨k3 + wK s k3, - upM s k3 (wK s k3), ⟨hP3, by omega, by omega, by omega⟩, qB (by simp [hw2]), rfl, by simp [hw2], by simp [hw2]⟩
         ·intro h151
          try simp at h151
          rw [if_neg (by intro h; exact h151 h.1 h.2)] at hP3
          refine AW.skip ?_
          exact ⟨k3 + wK s k3, upM s k3 (wK s k3), ⟨hP3, by omega, by omega, by omega⟩, qB (by simp), rfl, by simp, by simp⟩
     ·intro h92
      try simp at h92
      refine AW.skip ?_
      exact ⟨(k, 0), ⟨by simp only [qLV]; rw [if_neg (by intro h; have := h92 h.1; omega)], by show k ≤ 300000; omega, by simp, by simp⟩, qB (by simp), rfl, by simp, by simp⟩
    ·
     rintro ⟨k2, up⟩ ⟨hp3, hk2, hu1, hu2⟩
     simp only at hk2 hu1 hu2
     rw [hp3]
     refine AW.seq ?_
     refine rgn [] [[], [], [], [2, 5, 7, 8, 9, 157]] ?_
     iterate 4 refine op1 tok ?_
     refine qA ?_
     refine cnd ?_ ?_
     ·intro h157
      try simp at h157
      have hR : qFD s (vN s) digits scale (some (k2, up)) = xP := by simp only [qFD]; rw [if_neg (by omega)]
      refine rgn [] [[], [], [2, 3]] ?_
      iterate 3 refine op1 tok ?_
      refine qA ?_
      exact AW.ret (qJ (k := by simp [hR, xP]))
     ·intro h157
      try simp at h157
      have hR : qFD s (vN s) digits scale (some (k2, up)) = vQ (vN s) digits (scale - up) := by simp only [qFD]; rw [if_pos (by omega)]
      rw [hR]
      clear hR hp3
      have hw3 : IntKind.i64.wrap (-((scale : Int) - up)) = -((scale : Int) - up) := by simp [IntKind.wrap, IntKind.bits, IntKind.signed]; omega
      have hz := qXQ (G := G) (-((scale : Int) - up)) (by omega)
      have hzl : (wD (-((scale : Int) - up)).toNat).length ≤ 300000 := by simp [wD]; omega
      refine AW.skip ?_
      refine rgn [] [[], [], [2, 5, 7, 161], [2, 5, 7, 8]] ?_
      iterate 4 refine op1 tok ?_
      refine qA ?_
      refine AW.seq ?_
      refine rgn [] [[], [2, 5, 7, 8, 163]] ?_
      iterate 2 refine op1 tok ?_
      refine qA ?_
      refine cnd ?_ ?_
      ·intro h163
       try simp at h163
       have hL : vQ (vN s) digits ((scale : Int) - up) = yL (vN s) (digits ++ wD (-((scale : Int) - up)).toNat) 0 := by simp only [vQ]; rw [if_pos (by omega)]
       have hN := zGV (G := G) (vN s) (digits ++ wD (-((scale : Int) - up)).toNat) 0 (by simp; omega) (by omega)
       refine rgn [.nilp, .str (wD (-((scale : Int) - up)).toNat)] [[], [], [], [2, 5, 164, 167], [], [2, 5, 7]] ?_
       iterate 6 refine op1 tok ?_ (hv := by first | with_reducible exact True.intro | (first | (rw [hw3]; exact hz) | omega; done) | omega | simp | (simp +contextual; omega))
       refine qA ?_
       refine rgz [] [[]] ?_
       refine op1 tok ?_
       refine qA ?_
       refine rgn [.nilp, .tup [(yL (vN s) (digits ++ wD (-((scale : Int) - up)).toNat) 0).1.enc, .int .i64 (yL (vN s) (digits ++ wD (-((scale : Int) - up)).toNat) 0).2]] [[], [], [], [2, 172], [], [], [], [2, 3]] ?_
       iterate 8 refine op1 tok ?_ (hv := by first | with_reducible exact True.intro | (first | exact hN | simp; done) | omega | simp | (simp +contextual; omega))
       refine qA ?_
       exact AW.ret (qJ (k := by simp [hL]))
      ·intro h163
       try simp at h163
       obtain ⟨sc, hsc2⟩ : ∃ sc : Nat, (sc : Int) = (scale : Int) - up := ⟨((scale : Int) - up).toNat, by omega⟩
       have hL : vQ (vN s) digits ((scale : Int) - up) = yL (vN s) digits sc := by simp only [vQ]; rw [if_neg (by omega), ← hsc2]; rfl
       have hN := zGV (G := G) (vN s) digits sc (by omega) (by omega)
       rw [hsc2] at hN
       refine AW.skip ?_
       refine rgn [.nilp, .tup [(yL (vN s) digits sc).1.enc, .int .i64 (yL (vN s) digits sc).2]] [[], [], [], [2, 172], [], [], [], [2, 3]] ?_
       iterate 8 refine op1 tok ?_ (hv := by first | with_reducible exact True.intro | (first | exact hN | simp; done) | omega | simp | (simp +contextual; omega))
       refine qA ?_
       exact AW.ret (qJ (k := by simp [hL]))
def qCT (d : Dc) : List UInt8 := wD (d.scale.toNat + 1 - d.digits.length) ++ d.digits
def qEM (d : Dc) : List UInt8 := (if d.neg = true then [45] else []) ++ (if d.scale = 0 then qCT d else (qCT d).take ((qCT d).length - d.scale.toNat) ++ 46 :: (qCT d).drop ((qCT d).length - d.scale.toNat))
def xD (t : List UInt8) : List UInt8 := if t.head? = some 45 ∨ t.head? = some 43 then t.drop 1 else t
def qJS (s : List UInt8) : Option Int := match s with
 | [] => some 0
 | b :: t => if b ≠ 101 ∧ b ≠ 69 then none
  else if (xD t).dropWhile qG ≠ [] ∨ ((xD t).takeWhile qG).length < 1 ∨ 2 < ((xD t).takeWhile qG).length then none
  else some (if t.head? = some 45 then - (qGX ((xD t).takeWhile qG) : Int) else qGX ((xD t).takeWhile qG))
def qWB (s : List UInt8) : Bool := decide (s.head? = some 45)
def qAH (s : List UInt8) : List UInt8 := if s.head? = some 45 then s.drop 1 else s
def qJQ (r : List UInt8) : Option (List UInt8 × List UInt8) :=
 if r.head? = some 46 then (if (r.drop 1).takeWhile qG = [] then none else some ((r.drop 1).takeWhile qG, (r.drop 1).dropWhile qG)) else some ([], r)
def zAK (neg : Bool) (W P : List UInt8) : Option Int → Dc × Int
 | none => xP
 | some up => if W = [] ∨ (1 < W.length ∧ W.head? = some 48) then xP else vQ neg (W ++ P) (P.length - up)
def wH (s : List UInt8) : Dc × Int := match qJQ ((qAH s).dropWhile qG) with
 | none => xP
 | some (P, r) => zAK (qWB s) ((qAH s).takeWhile qG) P (qJS r)
theorem zKM {W F : List UInt8} (hW : W.all qG = true) (hF : ∀ b, F.head? = some b → qG b = false) : (W ++ F).takeWhile qG = W ∧ (W ++ F).dropWhile qG = F := by
 induction W with
 | nil =>
  cases F with
  | nil => exact ⟨rfl, rfl⟩
  | cons b F => have := hF b rfl; simp [List.takeWhile_cons, List.dropWhile_cons, this]
 | cons b W ih =>
  simp only [List.all_cons, Bool.and_eq_true] at hW
  obtain ⟨h1, h2⟩ := ih hW.2
  simp [List.takeWhile_cons, List.dropWhile_cons, hW.1, h1, h2]
theorem qZE (ng : Bool) (W R : List UInt8) (hW : W.all qG = true) (hR : R.all qG = true) (h0 : W ≠ []) (h1 : W.length = 1 ∨ qT W 0 ≠ 48) :
  wH ((if ng = true then [45] else []) ++ (W ++ if R = [] then [] else 46 :: R)) = yL ng (W ++ R) R.length := by
 generalize hF : (if R = [] then [] else 46 :: R) = F
 generalize hs : ((if ng = true then [45] else []) ++ (W ++ F)) = s
 obtain ⟨w0, W', rfl⟩ : ∃ w0 W', W = w0 :: W' := by cases W with
  | nil => exact absurd rfl h0
  | cons a W => exact ⟨a, W, rfl⟩
 have hw0 : qG w0 = true := by simp only [List.all_cons, Bool.and_eq_true] at hW; exact hW.1
 have hw1 : w0 ≠ 45 := by rintro rfl; revert hw0; decide
 have hb : qAH s = (w0 :: W') ++ F ∧ qWB s = ng := by
  rw [← hs]
  cases ng with
  | true => simp [qAH, qWB]
  | false => simp [qAH, qWB, hw1]
 have hFh : ∀ b, F.head? = some b → qG b = false := by
  rw [← hF]; split
  ·simp
  ·intro b hb; simp at hb; subst hb; decide
 obtain ⟨t1, t2⟩ := zKM hW hFh
 have hfr : qJQ F = some (R, []) := by
  rw [← hF]
  split
  ·rename_i hR0; subst hR0; rfl
  ·rename_i hR0
   obtain ⟨t3, t4⟩ := zKM (W := R) (F := []) hR (by simp)
   rw [List.append_nil] at t3 t4
   unfold qJQ
   simp only [List.head?_cons, if_true, List.drop_succ_cons, List.drop_zero, t3, t4]
   rw [if_neg hR0]
 unfold wH
 rw [hb.1, hb.2, t1, t2, hfr]
 simp only [qJS, zAK]
 rw [if_neg (by
  rintro (h | ⟨h, h'⟩)
  ·cases h
  ·rcases h1 with h1 | h1
   ·omega
   ·simp at h'; subst h'; exact h1 rfl)]
 unfold vQ
 rw [if_neg (by omega)]
 simp
structure RS where
 left : List UInt8
 nodes : Nat
 bad : Bool
 deep : Bool
 big : Bool
 deriving DecidableEq
def wF (st : RS) (k : Nat) : RS := { st with left := st.left.drop k }
def qPN (b : UInt8) : Bool := b == 32 || b == 9 || b == 13 || b == 10
def kH (s : List UInt8) : List UInt8 := s.dropWhile qPN
def yS (b : UInt8) : Bool := qG b || b == 45 || b == 43 || b == 46 || b == 101 || b == 69
def tk (w : List UInt8) (st : RS) : Bool × RS :=
 if w.isPrefixOf (kH st.left) then (true, { st with left := (kH st.left).drop w.length }) else (false, { st with left := kH st.left })
def vJ : List UInt8 → Nat
 | [] => 0
 | b :: t => if b = 34 then 1 else if b = 92 then (match t with
  | [] => 1
  | _ :: u => 2 + vJ u) else 1 + vJ t
def qFA (s : List UInt8) : Nat := if s = [] then 0 else 1 + vJ (s.drop 1)
def qBT (l : List UInt8) (st : RS) (u : List UInt8 × Nat × Int) : RS × List UInt8 :=
 if u.2.2 = 0 then ({ st with left := l.drop u.2.1 }, u.1) else if u.2.2 = 3 then ({ st with left := l.drop (qFA l), big := true }, u.1) else ({ st with left := l.drop u.2.1, bad := true }, u.1)
def qW (st : RS) : RS × List UInt8 := qBT (kH st.left) st (zH (kH st.left))
def jK (st : RS) : RS × Val :=
 ({ st with left := st.left.dropWhile yS, big := st.big || decide ((wH (st.left.takeWhile yS)).2 = 3), bad := st.bad || decide ((wH (st.left.takeWhile yS)).2 = 4) }, .mk 4 0 (wH (st.left.takeWhile yS)).1 [] [] [] 0)
def uO (c : UInt8) (many : Nat) (st : RS) : Bool × RS :=
 let st1 : RS := { st with big := st.big || decide (200 < many) }
 if st1.bad = true then (true, st1) else
 let a := tk [c] st1
 if a.1 = true then (true, a.2) else let b := tk [44] a.2
  (false, { b.2 with bad := !b.1 })
def kK (ks : List (List UInt8)) (vs : List Val) (key : List UInt8) (v : Val) : List (List UInt8) × List Val := if key ∈ ks then (ks, vs.set (ks.idxOf key) v) else (ks ++ [key], vs ++ [v])
def wY (st : RS) : RS := if st.bad = true then st else { (tk [58] st).2 with bad := !(tk [58] st).1 }
def qAU : List UInt8 := [110, 117, 108, 108]
def qAT : List UInt8 := [116, 114, 117, 101]
def xT : List UInt8 := [102, 97, 108, 115, 101]
def zP (st : RS) (d : Nat) : RS := ⟨kH st.left, st.nodes + 1, st.bad, st.deep || decide (12 < d), st.big || decide (400 < st.nodes + 1)⟩
def vF (st : RS) : RS × Val :=
 if qAU.isPrefixOf st.left then (wF st 4, .mk 1 0 dc0 [] [] [] 0)
 else if qAT.isPrefixOf st.left then (wF st 4, .mk 3 0 dc0 [] [] [] 0)
 else if xT.isPrefixOf st.left then (wF st 5, .mk 2 0 dc0 [] [] [] 0)
 else if ([34] : List UInt8).isPrefixOf st.left then ((qW st).1, .mk 5 0 dc0 (qW st).2 [] [] 0)
 else if st.left ≠ [] ∧ (qT st.left 0 = 45 ∨ kS (qT st.left 0) = true) then jK st
 else ({ st with bad := true }, wU)
mutual
def kG : Nat → RS → Nat → RS × Val
 | 0, st, _ => ({ st with bad := true }, wU)
 | n + 1, st, d =>
  if ([91] : List UInt8).isPrefixOf (zP st d).left then
   (let a := tk [93] (wF (zP st d) 1)
    let r := if a.1 = true then (a.2, []) else qBN n a.2 (d + 1) 1 []
    (r.1, .mk 6 0 dc0 [] [] r.2 0))
  else if ([123] : List UInt8).isPrefixOf (zP st d).left then
   (let a := tk [125] (wF (zP st d) 1)
    let r := if a.1 = true then (a.2, [], []) else qBM n a.2 (d + 1) 1 [] []
    (r.1, .mk 7 0 dc0 [] r.2.1 r.2.2 0))
  else vF (zP st d)
def qBN : Nat → RS → Nat → Nat → List Val → RS × List Val
 | 0, st, _, _, vs => ({ st with bad := true }, vs)
 | n + 1, st, d, many, vs =>
  if st.bad = true then (st, vs) else
  let a := kG n st d
  let b := uO 93 many a.1
  if b.1 = true then (b.2, vs ++ [a.2]) else qBN n b.2 d (many + 1) (vs ++ [a.2])
def qBM : Nat → RS → Nat → Nat → List (List UInt8) → List Val → RS × List (List UInt8) × List Val
 | 0, st, _, _, ks, vs => ({ st with bad := true }, ks, vs)
 | n + 1, st, d, many, ks, vs =>
  if st.bad = true then (st, ks, vs) else
  let q := qW st
  let c := wY q.1
  let a := if c.bad = true then (c, ks, vs) else let v := kG n c d
   (v.1, kK ks vs q.2 v.2)
  let b := uO 125 many a.1
  if b.1 = true then (b.2, a.2) else qBM n b.2 d (many + 1) a.2.1 a.2.2
end
theorem qIO (s : List UInt8) : (kH s).length ≤ s.length := (List.dropWhile_sublist _).length_le
theorem qLQ (w : List UInt8) (st : RS) : (tk w st).2.left.length ≤ st.left.length ∧ ((tk w st).1 = true → (tk w st).2.left.length + w.length ≤ st.left.length) := by
 have h := qIO st.left
 unfold tk
 split
 ·rename_i hp
  have := (List.isPrefixOf_iff_prefix.1 hp).length_le
  simp only [List.length_drop]
  exact ⟨by omega, fun _ => by omega⟩
 ·exact ⟨h, fun h => by cases h⟩
@[simp] theorem zKQ (w : List UInt8) (st : RS) : (tk w st).2.bad = st.bad := by unfold tk; split <;> rfl
@[simp] theorem qYH (w : List UInt8) (st : RS) : (tk w st).2.nodes = st.nodes := by unfold tk; split <;> rfl
@[simp] theorem zYC (w : List UInt8) (st : RS) : (tk w st).2.deep = st.deep := by unfold tk; split <;> rfl
@[simp] theorem zKP (w : List UInt8) (st : RS) : (tk w st).2.big = st.big := by unfold tk; split <;> rfl
theorem qKO (st : RS) : (qW st).1.left.length ≤ st.left.length := by
 have h := qIO st.left
 unfold qW qBT
 split
 ·simp only [List.length_drop]; omega
 ·split <;> (simp only [List.length_drop]; omega)
theorem qVL (c : UInt8) (many : Nat) (st : RS) : (uO c many st).2.left.length ≤ st.left.length := by
 unfold uO
 simp only
 split
 ·exact Nat.le_refl _
 ·split
  ·exact (qLQ _ _).1
  ·exact Nat.le_trans (qLQ _ _).1 (qLQ _ _).1
theorem zAY (st : RS) : (wY st).left.length ≤ st.left.length := by
 unfold wY; split
 ·exact Nat.le_refl _
 ·exact (qLQ _ _).1
theorem zAJ (st : RS) (d : Nat) : (zP st d).left.length ≤ st.left.length := qIO _
theorem qWQ (p : UInt8 → Bool) (l : List UInt8) : (l.dropWhile p).length ≤ l.length := (List.dropWhile_sublist _).length_le
theorem qNP : ∀ (f : Nat) (s : List UInt8) (k : Nat) (out : List UInt8), (vZ f s k out).2.2 = 0 → k + 1 ≤ (vZ f s k out).2.1
 | 0, s, k, out, h => by simp [vZ] at h
 | f + 1, s, k, out, h => by
  simp only [vZ] at h ⊢
  split at h
  ·simp at h
  ·rename_i h1
   rw [if_neg h1]
   split at h
   ·rename_i h2
    rw [if_pos h2]
    split at h
    ·simp at h
    ·rename_i h3; rw [if_neg h3]; exact Nat.le_refl _
   ·rename_i h2
    rw [if_neg h2]
    split at h
    ·simp at h
    ·rename_i h3
     rw [if_neg h3]
     split at h
     ·rename_i h4
      rw [if_pos h4]
      cases he : zND s with
      | none => rw [he] at h; simp at h
      | some cn =>
       obtain ⟨c, n⟩ := cn
       rw [he] at h
       simp only at h ⊢
       have := qNP f _ _ _ h
       omega
     ·rename_i h4
      rw [if_neg h4]
      have := qNP f _ _ _ h
      omega
theorem zHY {st : RS} (h : ([34] : List UInt8).isPrefixOf (kH st.left) = true) : (qW st).1.bad = false → (qW st).1.left.length < st.left.length := by
 have h1 := qIO st.left
 obtain ⟨t, ht⟩ := List.isPrefixOf_iff_prefix.1 h
 unfold qW qBT
 generalize kH st.left = l at *
 subst ht
 have hu : zH ([34] ++ t) = vZ (t.length + 1) t 1 [] := by
  unfold zH
  simp
 rw [hu]
 split
 ·rename_i h0
  intro _
  have := qNP _ _ _ _ h0
  simp only [List.length_drop]
  simp at h1 ⊢; omega
 ·split
  ·intro _
   simp only [List.length_drop, qFA]
   simp at h1 ⊢; omega
  ·intro hb; simp at hb
theorem zIC : (wH []).2 = 4 := by decide +kernel
theorem zIE {st : RS} (h : (jK st).1.bad = false) : (jK st).1.left.length < st.left.length := by
 unfold jK at h ⊢
 simp only [Bool.or_eq_false_iff, decide_eq_false_iff_not] at h
 have hs := List.takeWhile_append_dropWhile (p := yS) (l := st.left)
 generalize hA : st.left.takeWhile yS = A at *
 simp only
 have hl := congrArg List.length hs
 rw [List.length_append] at hl
 have : A ≠ [] := by rintro rfl; exact h.2 zIC
 have := List.length_pos_iff.2 this
 omega
theorem qAX (s : List UInt8) : kH (kH s) = kH s := by
 unfold kH
 induction s with
 | nil => rfl
 | cons b s ih =>
  rw [List.dropWhile_cons]
  split
  ·exact ih
  ·rename_i h; rw [List.dropWhile_cons, if_neg h]
theorem wR {w l : List UInt8} (h : w.isPrefixOf l = true) : w.length ≤ l.length := (List.isPrefixOf_iff_prefix.1 h).length_le
theorem zGQ (st : RS) (ht : kH st.left = st.left) : (vF st).1.left.length ≤ st.left.length ∧ ((vF st).1.bad = false → (vF st).1.left.length < st.left.length) := by
 unfold vF
 split
 ·rename_i h; have := wR h; simp [qAU, wF] at this ⊢; omega
 ·split
  ·rename_i h; have := wR h; simp [qAT, wF] at this ⊢; omega
  ·split
   ·rename_i h; have := wR h; simp [xT, wF] at this ⊢; omega
   ·split
    ·rename_i h; exact ⟨qKO st, zHY (by rw [ht]; exact h)⟩
    ·split
     ·exact ⟨qWQ _ _, zIE⟩
     ·exact ⟨Nat.le_refl _, fun h => by simp at h⟩
theorem zXR : ∀ n : Nat, (∀ st d, (kG n st d).1.left.length ≤ st.left.length ∧ ((kG n st d).1.bad = false → (kG n st d).1.left.length < st.left.length)) ∧
  (∀ st d many vs, (qBN n st d many vs).1.left.length ≤ st.left.length) ∧ (∀ st d many ks vs, (qBM n st d many ks vs).1.left.length ≤ st.left.length)
 | 0 => ⟨fun st d => ⟨by simp [kG], fun h => by simp [kG] at h⟩, fun st d many vs => by simp [qBN], fun st d many ks vs => by simp [qBM]⟩
 | n + 1 => by
  obtain ⟨ih1, ih2, ih3⟩ := zXR n
  refine ⟨fun st d => ?_, fun st d many vs => ?_, fun st d many ks vs => ?_⟩
  ·have he := zAJ st d
   have ht : kH (zP st d).left = (zP st d).left := qAX _
   simp only [kG]
   split
   ·rename_i h
    have h1 := wR h
    have h2 := qLQ [93] (wF (zP st d) 1)
    simp only [wF, List.length_drop, List.length_cons, List.length_nil] at h1 h2
    split
    ·simp only [wF]; exact ⟨by omega, fun _ => by omega⟩
    ·have h3 := ih2 (tk [93] (wF (zP st d) 1)).2 (d + 1) 1 []
     simp only [wF] at h3 ⊢
     exact ⟨by omega, fun _ => by omega⟩
   ·split
    ·rename_i h
     have h1 := wR h
     have h2 := qLQ [125] (wF (zP st d) 1)
     simp only [wF, List.length_drop, List.length_cons, List.length_nil] at h1 h2
     split
     ·simp only [wF]; exact ⟨by omega, fun _ => by omega⟩
     ·have h3 := ih3 (tk [125] (wF (zP st d) 1)).2 (d + 1) 1 [] []
      simp only [wF] at h3 ⊢
      exact ⟨by omega, fun _ => by omega⟩
    ·have h1 := zGQ (zP st d) ht
     exact ⟨by omega, fun hb => by have := h1.2 hb; omega⟩
  ·simp only [qBN]
   split
   ·exact Nat.le_refl _
   ·have h1 := (ih1 st d).1
    have h2 := qVL 93 many (kG n st d).1
    split
    ·simp only; omega
    ·have := ih2 (uO 93 many (kG n st d).1).2 d (many + 1) (vs ++ [(kG n st d).2]); omega
  ·simp only [qBM]
   split
   ·exact Nat.le_refl _
   ·have h1 := qKO st
    have h2 := zAY (qW st).1
    have h3 := (ih1 (wY (qW st).1) d).1
    generalize hA : (if (wY (qW st).1).bad = true then (wY (qW st).1, ks, vs) else ((kG n (wY (qW st).1) d).1, kK ks vs (qW st).2 (kG n (wY (qW st).1) d).2)) = A
    have h4 : A.1.left.length ≤ st.left.length := by
     rw [← hA]; split
     ·simp only; omega
     ·simp only; omega
    have h5 := qVL 125 many A.1
    split
    ·simp only; omega
    ·have := ih3 (uO 125 many A.1).2 d (many + 1) A.2.1 A.2.2; omega
open Go Go.RowKit Go.Shelf Go.Maps Go.Sort
attribute [local go_sem] Oper.semAt_some
def qKF {α : Type} (f : Nat → α) (k : Nat) : List α := (List.range k).map f
theorem qRW {α : Type} (f : Nat → α) (k : Nat) : qKF f (k + 1) = qKF f k ++ [f k] := by simp [qKF, List.range_succ]
theorem qYA {α : Type} (f : Nat → α) (k : Nat) : (qKF f k).length = k := by simp [qKF]
theorem qRV (zs : List (List UInt8)) {k : Nat} (hk : k ≤ zs.length) : qKF (fun j => zs[j]?.getD []) k = zs.take k := by
 apply List.ext_getElem
 ·simp [qKF, hk]
 ·intro i h1 h2
  have : i < zs.length := by simp [qKF] at h1; omega
  simp [qKF, this]
theorem zKG (zs : List (List UInt8)) : qKF (fun j => zs[j]?.getD []) zs.length = zs := by rw [qRV zs (Nat.le_refl _), List.take_length]
set_option maxRecDepth 100000 in
set_option maxHeartbeats 2000000 in
theorem zCE (F : Fence) (n : Nat) (h7 : F.fn 209) (hro : F.round = none) (hn : 1 ≤ n) (l Bs n₀ b off len cap : Nat) (zs : List (List UInt8)) (hreach : len * 16 ≤ 140737488351232) (hb : b < n₀) (J Jx : List (List UInt8) → World → Prop)
  (hY : ∀ pre x W, J pre W → pre.length < len → YieldAt F (n - 1) Tryz.prog l #[encStr x] W fun e W' =>
   (e = .returned (.bool true) ∧ J (pre ++ [x]) W' ∧ Below n₀ W W') ∨ (e = .returned (.bool false) ∧ Jx (pre ++ [x]) W'))
  (W : World) (hBs : W.cell? ⟨Bs, 0, none⟩ = some (.slice (some ⟨b, off, none⟩) len cap)) (hc : ∀ j, j < len → W.cell? ⟨b, off + j, none⟩ = some (encStr (zs[j]?.getD []))) (h0 : J [] W) :
  CallsIn F n Tryz.prog 209 #[.func (.yield l) #[] #[], .pointer (some ⟨Bs, 0, none⟩)] W fun e W' => (∃ v, e = .returned v) ∧
   ((∃ ys, ys = qKF (fun j => zs[j]?.getD []) len ∧ J ys W') ∨ (∃ pre, (∃ k, k ≤ len ∧ pre = qKF (fun j => zs[j]?.getD []) k) ∧ Jx pre W')) := by
 refine callsIn_of_wp Tryz.func209 rfl h7 ?_ hro
 simp only [Tryz.ntmps209, List.size_toArray, List.length_cons, List.length_nil, Nat.reduceAdd, Nat.reduceSub, Array.replicate_succ, Array.replicate_zero, List.push_toArray, List.append_toArray, List.nil_append, List.cons_append]
 gi_wp2
 gi_loopw [7] (fun i wr => ∃ k : Nat, k ≤ len ∧ i = .int .i64 k ∧ J (qKF (fun j => zs[j]?.getD []) k) wr ∧ Below n₀ W wr)
  (fun i _ => len - (intOf i).toNat)
 case atStart => exact ⟨0, Nat.zero_le _, rfl, h0, Below.refl _ _⟩
 case round =>
  obtain ⟨k, hk, rfl, hJs, hnx⟩ := hrel
  have hcx : k < len → wr.cell? ⟨b, off + k, none⟩ = some (encStr (zs[k]?.getD [])) := fun h => (hnx.cell (p := ⟨b, off + k, none⟩) hb).trans (hc k h)
  by_cases hlt : k < len
  ·obtain ⟨fn, tmps, assign, body, hy, hR⟩ := hY _ (zs[k]?.getD []) wr hJs (by rw [qYA]; exact hlt)
   have hcx' := hcx hlt
   gi_wp2
   refine hR.mono ?_
   rintro e W3 (⟨rfl, hJ3, hk3⟩ | ⟨rfl, hJx3⟩)
   ·gi_wp2
    go_roundw
    case rel => exact ⟨k + 1, by omega, by simp, by rw [qRW]; exact hJ3, hnx.trans hk3⟩
    case measure => simp [intOf]; omega
   ·gi_wp2
    refine bodyPost_ret (results_none rfl _ _ _) rfl ?_
    exact ⟨⟨_, rfl⟩, .inr ⟨_, ⟨k + 1, by omega, (qRW _ _).symm⟩, hJx3⟩⟩
  ·obtain rfl : k = len := by omega
   gi_wp2
   go_end0
   exact ⟨⟨_, rfl⟩, .inl ⟨_, rfl, hJs⟩⟩
def zBS (n₀ : Nat) (W : World) (sv : Value) (zs : List (List UInt8)) : Prop :=
 (zs = [] ∧ ∃ a c, sv = .slice a 0 c) ∨ ∃ b off cap, sv = .slice (some ⟨b, off, none⟩) zs.length cap ∧ b < n₀ ∧ ∀ j, j < zs.length → W.cell? ⟨b, off + j, none⟩ = some (encStr (zs[j]?.getD []))
theorem zBS.below {n₀ : Nat} {A B : World} (h : Below n₀ A B) {sv : Value} {zs : List (List UInt8)} : zBS n₀ A sv zs → zBS n₀ B sv zs
 | .inl e => .inl e
 | .inr ⟨b, off, cap, e, hb, hc⟩ => .inr ⟨b, off, cap, e, hb, fun j hj => (h.cell (p := ⟨b, off + j, none⟩) hb).trans (hc j hj)⟩
set_option maxRecDepth 100000 in
set_option maxHeartbeats 1000000 in
theorem qNK (F : Fence) (n : Nat) (h7 : F.fn 209) (hro : F.round = none) (l Bs : Nat) (a : Option Addr) (c : Nat) (J : List (List UInt8) → World → Prop) (W : World) (hBs : W.cell? ⟨Bs, 0, none⟩ = some (.slice a 0 c)) (h0 : J [] W) :
  CallsIn F n Tryz.prog 209 #[.func (.yield l) #[] #[], .pointer (some ⟨Bs, 0, none⟩)] W fun e W' => (∃ v, e = .returned v) ∧ J [] W' := by
 refine callsIn_of_wp Tryz.func209 rfl h7 ?_ hro
 simp only [Tryz.ntmps209, List.size_toArray, List.length_cons, List.length_nil, Nat.reduceAdd, Nat.reduceSub, Array.replicate_succ, Array.replicate_zero, List.push_toArray, List.append_toArray, List.nil_append, List.cons_append]
 gi_wp2
 gi_loopw [7] (fun i wr => i = .int .i64 0 ∧ J [] wr) (fun _ _ => 0)
 case atStart => exact ⟨rfl, h0⟩
 case round =>
  obtain ⟨rfl, hJs⟩ := hrel
  gi_wp2
  go_end0
  exact ⟨⟨_, rfl⟩, hJs⟩
theorem qUZ (F : Fence) (n : Nat) (h7 : F.fn 209) (hro : F.round = none) (hn : 1 ≤ n) (Bs n₀ : Nat) (sv : Value) (zs : List (List UInt8)) (hreach : zs.length * 16 ≤ 140737488351232) (w : World) (hBs : Bs < w.heap.size) (hn₀ : n₀ ≤ w.heap.size)
  (hc : w.cell? ⟨Bs, 0, none⟩ = some sv) (hI : zBS n₀ w sv zs) :
  SeqStopsK F n Tryz.prog 209 #[.pointer (some ⟨Bs, 0, none⟩)] (fun x : List UInt8 => #[encStr x]) (Below n₀) (fun ys => ys = zs) (fun pre => pre <+: zs) zs.length w := fun l J Jx W hW _ _ hY h0 => by
 have hc' := (hW.cell (p := ⟨Bs, 0, none⟩) hBs).trans hc
 rcases hI.below (hW.mono hn₀) with ⟨rfl, a, c, rfl⟩ | ⟨b, off, cap, rfl, hb, hcs⟩
 ·exact (qNK F n h7 hro l Bs a c J W hc' h0).mono fun e W' ⟨he, hj⟩ => ⟨he, .inl ⟨_, rfl, hj⟩⟩
 ·refine (zCE F n h7 hro hn l Bs n₀ b off zs.length cap zs hreach hb J Jx hY W hc' hcs h0).mono ?_
  rintro e W' ⟨he, ⟨ys, rfl, hj⟩ | ⟨pre, ⟨k, hk, rfl⟩, hj⟩⟩
  ·exact ⟨he, .inl ⟨_, zKG zs, hj⟩⟩
  ·exact ⟨he, .inr ⟨_, by rw [qRV zs hk]; exact List.take_prefix _ _, hj⟩⟩
theorem zPJ : (Tryz.prog.info? 9).map (fun i => (i.zero, i.size, i.bytes)) = some (some (.string .empty), 1, 16) := by kernel_rfl
set_option maxRecDepth 100000 in
set_option maxHeartbeats 2000000 in
theorem qXG (F : Fence) (n : Nat) (h3 : F.fn 230) (h5 : F.fn 209) (hro : F.round = none) (hn : 3 ≤ n) (Bs : Nat) (sv : Value) (zs : List (List UInt8)) (hlen : zs.length ≤ maxLen) (hbytes : zs.length * 16 ≤ 140737488351232) (w : World)
  (hBs : Bs < w.heap.size) (hc0 : w.cell? ⟨Bs, 0, none⟩ = some sv) (hI : zBS w.heap.size w sv zs) :
  CallsIn F n Tryz.prog 230 #[.slice none 0 0, .func (.func 209) #[] #[.pointer (some ⟨Bs, 0, none⟩)]] w fun e W' => ∃ v, e = .returned v ∧ W'.ownsRow w.heap.size 9 1 v zs.length (zs.map encStr) ∧ Below w.heap.size w W' := by
 have h1 : 1 ≤ n := by omega
 obtain ⟨i0, hi, hz0, hz1, hz2⟩ := info_parts zPJ
 refine callsIn_of_wp_marks Tryz.func230 rfl h3 ?_ hro
 simp only [Tryz.ntmps230, List.size_toArray, List.length_cons, List.length_nil, Nat.reduceAdd, Nat.reduceSub, Array.replicate_succ, Array.replicate_zero, List.push_toArray, List.append_toArray, List.nil_append, List.cons_append]
 gi_wp2
 have bO := Boxed.new w 27 (.slice none 0 0)
 have hB0 : Below w.heap.size w (w.alloc (.cells #[.slice none 0 0] 27)) := (Below.refl _ w).alloc (Nat.le_refl _) _
 refine wpIn_rangeFunc_ownG hro h1 (gf := 209) (lb := #[.pointer (some ⟨Bs, 0, none⟩)]) rfl h5 (enters_of Tryz.func209 (by kernel_rfl) rfl)
  (qUZ F (n - 1) h5 hro (by omega) Bs w.heap.size sv zs hbytes _ (by simp; omega) (by simp) ((hB0.cell (p := ⟨Bs, 0, none⟩) hBs).trans hc0) (hI.below hB0)) belowK_t (belowK_b (by simp)) (Below.refl _ _) (fun _ => rfl)
  (fun pre W => (∃ v, Boxed W w.heap.size 27 v ∧ W.ownsRow w.heap.size 9 1 v pre.length (pre.map encStr) ∧ True) ∧ Below w.heap.size w W)
  (fun _ _ _ => False)
  (OwnFrom.and (Own.from (holdsRow_own w.heap.size w.heap.size 27 9 1 (fun pre : List (List UInt8) => pre.length) (fun pre => pre.map encStr) (fun _ _ => True)) _) (ownFrom_below (Nat.le_refl _) (by simp)))
  (fun _ _ _ _ _ hs _ _ => hs)
  ⟨⟨_, bO, World.ownsRow_nil _ _ _ _, trivial⟩, hB0⟩
  (fun x => { tmps := #[.slice none 0 0, .func (.func 209) #[] #[.pointer (some ⟨Bs, 0, none⟩)], .pointer (some ⟨w.heap.size, 0, none⟩), undef, .slice none 0 0, encStr x, .func (.func 209) #[] #[.pointer (some ⟨Bs, 0, none⟩)], encStr x, undef, undef, undef, undef, undef], defers := [] }) ?assign ?body ?done ?stop
 case assign =>
  intro l x W K hK
  gi_wp2
  exact hK
 case body =>
  rintro l pre x W ⟨⟨v, hv, hrow, _⟩, hB⟩ hlt
  have hc := hv.cell
  gi_wp2_with (gi_at_builtin; refine wpListIn_append_own _ rfl _ _ 27 rfl w.heap.size 9 i0 (.string .empty) 1 16 Tryz.underlying27 hi hz0 hz1 hz2 rfl (by decide) _ _ _ rfl (hrow.alloc _) ⟨W.heap.size, 0, none⟩ 1 1 [encStr x] rfl rfl (cell_one_new _ _ _) (by simp [Value.oneCell']) (by omega) (by omega) (by have := hB.size; simp; omega) ?_; intro v' w1 hown' hgrow _; obtain ⟨g', cap', rfl⟩ := ownsRow_succ hown'; obtain ⟨hv1, hv2, hr2, hk2, hb2⟩ := hv.appended (by decide) hrow hB.size (Nat.le_refl _) hown' hgrow; have hc1 := hv1.cell; have hf1 := hv1.frozen)
  exact ⟨hk2.from _, hb2, ⟨_, hv2, by simpa using hr2, trivial⟩, hB.trans hb2⟩
 case done =>
  rintro D ys W hD rfl ⟨⟨v, hv, hrow, _⟩, hB⟩ hK
  have hc := hv.cell
  gi_wp2
  refine ⟨by simp, .inl ⟨_, _, rfl, run_takeDeferred hK, ?_⟩⟩
  exact ⟨_, results_tmp rfl _ _ _, v, rfl, ownsRow_putObj hrow _ hK rfl, hB.trans (belowK_b (w := w) (Nat.le_refl _) W D _ _ (by simp at hD; omega) hK rfl rfl)⟩
 case stop =>
  rintro D c pre W _ _ h _
  exact h.elim
set_option maxRecDepth 100000 in
set_option maxHeartbeats 2000000 in
theorem zEE (F : Fence) (n : Nat) (h2 : F.fn 207) (h3 : F.fn 230) (h5 : F.fn 209) (hro : F.round = none) (hn : 4 ≤ n) (Bs : Nat) (sv : Value) (zs : List (List UInt8)) (hlen : zs.length ≤ maxLen) (hbytes : zs.length * 16 ≤ 140737488351232) (w : World)
  (hBs : Bs < w.heap.size) (hc0 : w.cell? ⟨Bs, 0, none⟩ = some sv) (hI : zBS w.heap.size w sv zs) :
  CallsIn F n Tryz.prog 207 #[.func (.func 209) #[] #[.pointer (some ⟨Bs, 0, none⟩)]] w fun e W' => ∃ v, e = .returned v ∧ W'.ownsRow w.heap.size 9 1 v zs.length (zs.map encStr) ∧ Below w.heap.size w W' := by
 have h1 : 1 ≤ n := by omega
 refine callsIn_of_wp Tryz.func207 rfl h2 ?_ hro
 simp only [Tryz.ntmps207, List.size_toArray, List.length_cons, List.length_nil, Nat.reduceAdd, Nat.reduceSub, Array.replicate_succ, Array.replicate_zero, List.push_toArray, List.append_toArray, List.nil_append, List.cons_append]
 gi_wp2_with (gi_at_call 230; refine (qXG F (n - 1) h3 h5 hro (by omega) Bs sv zs hlen hbytes _ hBs hc0 hI).mono ?_; rintro e W ⟨v, rfl, hrow, hb⟩)
 go_ret
 exact ⟨v, rfl, hrow, hb⟩
end Go.Proofs.YtdojfdaglbphlaaGreatDoor
namespace Go.Proofs
open Go.Shelf
def Tryz.lays106_ren : Go.Shelf.Ren := ⟨fun | 106 => 104 | 213 => 160 | 265 => 206 | n => n, fun | 9 => 9 | 3 => 3 | n => n, fun | n => n⟩
theorem Tryz.lays106 : Go.Proofs.Lays.n106 Tryz.prog Tryz.lays106_ren := {
 mixed := by kernel_rfl
 f106 := Tryz.func104.trans (congrArg some (by kernel_rfl))
 f213 := Tryz.func160.trans (congrArg some (by kernel_rfl))
 f265 := Tryz.func206.trans (congrArg some (by kernel_rfl))
 t3 := Tryz.underlying3
 a3 := Tryz.isAgg3
 z3 := Tryz.sizeOf3
 v3 := Tryz.zeroValue3
 t9 := Tryz.underlying9
 a9 := Tryz.isAgg9
 z9 := Tryz.sizeOf9
 v9 := Tryz.zeroValue9 }
def Tryz.lays105_ren : Go.Shelf.Ren := ⟨fun | 105 => 99 | 212 => 152 | 99 => 153 | 165 => 154 | 166 => 155 | 170 => 156 | 169 => 157 | 263 => 201 | 264 => 202 | 206 => 203 | 240 => 204 | 241 => 205 | 276 => 228 | 277 => 229 | n => n, fun | 9 => 9 | 3 => 3 | 4 => 4 | 20 => 20 | 0 => 0 | 46 => 158 | 109 => 159 | 5 => 5 | 72 => 163 | 76 => 167 | 51 => 208 | 146 => 209 | 53 => 24 | 148 => 211 | 70 => 161 | 37 => 107 | 75 => 166 | 127 => 213 | 164 => 232 | 80 => 101 | n => n, fun | n => n⟩
theorem Tryz.lays105 : Go.Proofs.Lays.n105 Tryz.prog Tryz.lays105_ren := {
 mixed := by kernel_rfl
 f99 := Tryz.func153.trans (congrArg some (by kernel_rfl))
 f105 := Tryz.func99.trans (congrArg some (by kernel_rfl))
 f165 := Tryz.func154.trans (congrArg some (by kernel_rfl))
 f166 := Tryz.func155.trans (congrArg some (by kernel_rfl))
 f169 := Tryz.func157.trans (congrArg some (by kernel_rfl))
 f170 := Tryz.func156.trans (congrArg some (by kernel_rfl))
 f206 := Tryz.func203.trans (congrArg some (by kernel_rfl))
 f212 := Tryz.func152.trans (congrArg some (by kernel_rfl))
 f240 := Tryz.func204.trans (congrArg some (by kernel_rfl))
 f241 := Tryz.func205.trans (congrArg some (by kernel_rfl))
 f263 := Tryz.func201.trans (congrArg some (by kernel_rfl))
 f264 := Tryz.func202.trans (congrArg some (by kernel_rfl))
 f276 := Tryz.func228.trans (congrArg some (by kernel_rfl))
 f277 := Tryz.func229.trans (congrArg some (by kernel_rfl))
 t0 := Tryz.underlying0
 a0 := Tryz.isAgg0
 z0 := Tryz.sizeOf0
 v0 := Tryz.zeroValue0
 t3 := Tryz.underlying3
 a3 := Tryz.isAgg3
 z3 := Tryz.sizeOf3
 v3 := Tryz.zeroValue3
 t4 := Tryz.underlying4
 a4 := Tryz.isAgg4
 z4 := Tryz.sizeOf4
 v4 := Tryz.zeroValue4
 t5 := Tryz.underlying5
 a5 := Tryz.isAgg5
 z5 := Tryz.sizeOf5
 v5 := Tryz.zeroValue5
 t9 := Tryz.underlying9
 a9 := Tryz.isAgg9
 z9 := Tryz.sizeOf9
 v9 := Tryz.zeroValue9
 t20 := Tryz.underlying20
 a20 := Tryz.isAgg20
 z20 := Tryz.sizeOf20
 v20 := Tryz.zeroValue20
 t37 := Tryz.underlying107
 a37 := Tryz.isAgg107
 z37 := Tryz.sizeOf107
 v37 := Tryz.zeroValue107
 t46 := Tryz.underlying158
 a46 := Tryz.isAgg158
 z46 := Tryz.sizeOf158
 v46 := Tryz.zeroValue158
 t51 := Tryz.underlying208
 a51 := Tryz.isAgg208
 z51 := Tryz.sizeOf208
 v51 := Tryz.zeroValue208
 t53 := Tryz.underlying24
 a53 := Tryz.isAgg24
 z53 := Tryz.sizeOf24
 v53 := Tryz.zeroValue24
 t70 := Tryz.underlying161
 a70 := Tryz.isAgg161
 z70 := Tryz.sizeOf161
 v70 := Tryz.zeroValue161
 t72 := Tryz.underlying163
 a72 := Tryz.isAgg163
 z72 := Tryz.sizeOf163
 v72 := Tryz.zeroValue163
 t75 := Tryz.underlying166
 a75 := Tryz.isAgg166
 z75 := Tryz.sizeOf166
 v75 := Tryz.zeroValue166
 t76 := Tryz.underlying167
 a76 := Tryz.isAgg167
 z76 := Tryz.sizeOf167
 v76 := Tryz.zeroValue167
 t109 := Tryz.underlying159
 a109 := Tryz.isAgg159
 z109 := Tryz.sizeOf159
 v109 := Tryz.zeroValue159
 t127 := Tryz.underlying213
 a127 := Tryz.isAgg213
 z127 := Tryz.sizeOf213
 v127 := Tryz.zeroValue213
 t146 := Tryz.underlying209
 a146 := Tryz.isAgg209
 z146 := Tryz.sizeOf209
 v146 := Tryz.zeroValue209
 t148 := Tryz.underlying211
 a148 := Tryz.isAgg211
 z148 := Tryz.sizeOf211
 v148 := Tryz.zeroValue211
 t164 := Tryz.underlying232
 a164 := Tryz.isAgg232
 z164 := Tryz.sizeOf232
 v164 := Tryz.zeroValue232 }
def Tryz.lays190_ren : Go.Shelf.Ren := ⟨fun | 190 => 208 | 125 => 232 | 258 => 231 | 128 => 258 | 129 => 241 | 302 => 249 | 303 => 250 | 304 => 251 | 305 => 252 | 306 => 253 | 307 => 254 | 308 => 255 | 309 => 256 | 310 => 257 | 333 => 269 | 329 => 270 | 330 => 271 | 334 => 272 | 335 => 273 | 336 => 210 | 344 => 277 | n => n, fun | 31 => 27 | 9 => 9 | 3 => 3 | 46 => 158 | 0 => 0 | 51 => 208 | 53 => 24 | 4 => 4 | 183 => 254 | 182 => 253 | 131 => 206 | 5 => 5 | 218 => 267 | 222 => 271 | 228 => 276 | 229 => 139 | n => n, fun | n => n⟩
theorem Tryz.lays190 : Go.Proofs.Lays.n190 Tryz.prog Tryz.lays190_ren := {
 mixed := by kernel_rfl
 f125 := Tryz.func232.trans (congrArg some (by kernel_rfl))
 f128 := Tryz.func258.trans (congrArg some (by kernel_rfl))
 f129 := Tryz.func241.trans (congrArg some (by kernel_rfl))
 f190 := Tryz.func208.trans (congrArg some (by kernel_rfl))
 f258 := Tryz.func231.trans (congrArg some (by kernel_rfl))
 f302 := Tryz.func249.trans (congrArg some (by kernel_rfl))
 f303 := Tryz.func250.trans (congrArg some (by kernel_rfl))
 f304 := Tryz.func251.trans (congrArg some (by kernel_rfl))
 f305 := Tryz.func252.trans (congrArg some (by kernel_rfl))
 f306 := Tryz.func253.trans (congrArg some (by kernel_rfl))
 f307 := Tryz.func254.trans (congrArg some (by kernel_rfl))
 f308 := Tryz.func255.trans (congrArg some (by kernel_rfl))
 f309 := Tryz.func256.trans (congrArg some (by kernel_rfl))
 f310 := Tryz.func257.trans (congrArg some (by kernel_rfl))
 f329 := Tryz.func270.trans (congrArg some (by kernel_rfl))
 f330 := Tryz.func271.trans (congrArg some (by kernel_rfl))
 f333 := Tryz.func269.trans (congrArg some (by kernel_rfl))
 f334 := Tryz.func272.trans (congrArg some (by kernel_rfl))
 f335 := Tryz.func273.trans (congrArg some (by kernel_rfl))
 f336 := Tryz.func210.trans (congrArg some (by kernel_rfl))
 f344 := Tryz.func277.trans (congrArg some (by kernel_rfl))
 t0 := Tryz.underlying0
 a0 := Tryz.isAgg0
 z0 := Tryz.sizeOf0
 v0 := Tryz.zeroValue0
 t3 := Tryz.underlying3
 a3 := Tryz.isAgg3
 z3 := Tryz.sizeOf3
 v3 := Tryz.zeroValue3
 t4 := Tryz.underlying4
 a4 := Tryz.isAgg4
 z4 := Tryz.sizeOf4
 v4 := Tryz.zeroValue4
 t5 := Tryz.underlying5
 a5 := Tryz.isAgg5
 z5 := Tryz.sizeOf5
 v5 := Tryz.zeroValue5
 t9 := Tryz.underlying9
 a9 := Tryz.isAgg9
 z9 := Tryz.sizeOf9
 v9 := Tryz.zeroValue9
 t31 := Tryz.underlying27
 a31 := Tryz.isAgg27
 z31 := Tryz.sizeOf27
 v31 := Tryz.zeroValue27
 t46 := Tryz.underlying158
 a46 := Tryz.isAgg158
 z46 := Tryz.sizeOf158
 v46 := Tryz.zeroValue158
 t51 := Tryz.underlying208
 a51 := Tryz.isAgg208
 z51 := Tryz.sizeOf208
 v51 := Tryz.zeroValue208
 t53 := Tryz.underlying24
 a53 := Tryz.isAgg24
 z53 := Tryz.sizeOf24
 v53 := Tryz.zeroValue24
 t131 := Tryz.underlying206
 a131 := Tryz.isAgg206
 z131 := Tryz.sizeOf206
 v131 := Tryz.zeroValue206
 t182 := Tryz.underlying253
 a182 := Tryz.isAgg253
 z182 := Tryz.sizeOf253
 v182 := Tryz.zeroValue253
 t183 := Tryz.underlying254
 a183 := Tryz.isAgg254
 z183 := Tryz.sizeOf254
 v183 := Tryz.zeroValue254
 t218 := Tryz.underlying267
 a218 := Tryz.isAgg267
 z218 := Tryz.sizeOf267
 v218 := Tryz.zeroValue267
 t222 := Tryz.underlying271
 a222 := Tryz.isAgg271
 z222 := Tryz.sizeOf271
 v222 := Tryz.zeroValue271
 t228 := Tryz.underlying276
 a228 := Tryz.isAgg276
 z228 := Tryz.sizeOf276
 v228 := Tryz.zeroValue276
 t229 := Tryz.underlying139
 a229 := Tryz.isAgg139
 z229 := Tryz.sizeOf139
 v229 := Tryz.zeroValue139 }
def Tryz.lays169_ren : Go.Shelf.Ren := ⟨fun | 169 => 157 | n => n, fun | 70 => 161 | 9 => 9 | 0 => 0 | 72 => 163 | 37 => 107 | 127 => 213 | 3 => 3 | 5 => 5 | n => n, fun | n => n⟩
theorem Tryz.lays169 : Go.Proofs.Lays.n169 Tryz.prog Tryz.lays169_ren := {
 mixed := by kernel_rfl
 f169 := Tryz.func157.trans (congrArg some (by kernel_rfl))
 t0 := Tryz.underlying0
 a0 := Tryz.isAgg0
 z0 := Tryz.sizeOf0
 v0 := Tryz.zeroValue0
 t3 := Tryz.underlying3
 a3 := Tryz.isAgg3
 z3 := Tryz.sizeOf3
 v3 := Tryz.zeroValue3
 t9 := Tryz.underlying9
 a9 := Tryz.isAgg9
 z9 := Tryz.sizeOf9
 v9 := Tryz.zeroValue9
 t37 := Tryz.underlying107
 a37 := Tryz.isAgg107
 z37 := Tryz.sizeOf107
 v37 := Tryz.zeroValue107
 t70 := Tryz.underlying161
 a70 := Tryz.isAgg161
 z70 := Tryz.sizeOf161
 v70 := Tryz.zeroValue161
 t72 := Tryz.underlying163
 a72 := Tryz.isAgg163
 z72 := Tryz.sizeOf163
 v72 := Tryz.zeroValue163
 t127 := Tryz.underlying213
 a127 := Tryz.isAgg213
 z127 := Tryz.sizeOf213
 v127 := Tryz.zeroValue213 }
end Go.Proofs
namespace Go.Proofs.YtdojfdaglbphlaaGreatDoor
open Sy Go
variable {G : qV}
theorem zOF {M : zB} {vs : Array Value} {s t : List UInt8} (hsz : vs.size = 2) (h : ∀ (i : Nat) u d, vs[i]? = some u → [PD.str s, PD.str t][i]? = some d → Rd M u d) : ∃ a b : ByteArray, vs = #[.string a, .string b] ∧ a.data.toList = s ∧ b.data.toList = t := by
 obtain ⟨l⟩ := vs
 match l, hsz with
 | [u, v], _ =>
  have h1 := h 0 u (.str s) rfl rfl
  have h2 := h 1 v (.str t) rfl rfl
  cases h1 with
  | @str a _ ha _ =>
  cases h2 with
  | @str b _ hb _ => exact ⟨a, b, rfl, ha, hb⟩
theorem zEO {M : zB} {vs : Array Value} {s : List UInt8} {n : Int} (hsz : vs.size = 2) (h : ∀ (i : Nat) u d, vs[i]? = some u → [PD.str s, PD.int .i64 n][i]? = some d → Rd M u d) : ∃ a : ByteArray, vs = #[.string a, .int .i64 n] ∧ a.data.toList = s ∧ n ≤ 9223372036854775807 := by
 obtain ⟨l⟩ := vs
 match l, hsz with
 | [u, v], _ =>
  have h1 := h 0 u (.str s) rfl rfl
  have h2 := h 1 v (.int .i64 n) rfl rfl
  cases h1 with
  | @str a _ ha _ =>
  cases h2 with
  | int h3 h4 => exact ⟨a, rfl, ha, by rw [vR] at h4; exact h4⟩
theorem zET (a b : List UInt8) : AFn Tryz.prog G 104 [.str a, .str b] (.int .i64 (Lib.compareBytes a b)) := by
 refine AFn.of_calls (uZ Tryz.func104 (by kernel_rfl) rfl) fun M w vs hg hmem hsz hrd => ?_
 obtain ⟨x, y, rfl, rfl, rfl⟩ := zOF hsz hrd
 refine (Any.strings_Compare Tryz.lays106 x y w).mono ?_
 rintro e w' ⟨rfl, rfl⟩
 have hb : -1 ≤ Lib.compareBytes x.data.toList y.data.toList ∧ Lib.compareBytes x.data.toList y.data.toList ≤ 1 := by
  generalize x.data.toList = l; generalize y.data.toList = m
  induction l generalizing m with
  | nil => cases m <;> simp [Lib.compareBytes]
  | cons a l ih =>
   cases m with
   | nil => simp [Lib.compareBytes]
   | cons b m =>
    simp only [Lib.compareBytes]
    split
    ·omega
    ·split
     ·omega
     ·exact ih m
 exact ⟨_, rfl, .int (by rw [uN]; simp only [jE]; omega) (by rw [vR]; simp only [jF]; omega), RowKit.Below.refl _ _⟩
theorem qRM : Builder.Extra Tryz.prog Tryz.lays105_ren where
 sizeBuilder := by kernel_rfl
 liesBuilder := by kernel_rfl
 t5 := Tryz.underlying5
 a5 := Tryz.isAgg5
 z5 := Tryz.sizeOf5
 v5 := Tryz.zeroValue5
 infoByte := by kernel_rfl
 cellsByte := by kernel_rfl
 sizeByte := by kernel_rfl
 neB5 := by decide
theorem qDN (s : List UInt8) (n : Nat) (h : s.length * n ≤ 140737488355328) : AFn Tryz.prog G 99 [.str s, .int .i64 n] (.str (Lib.repeatL s n)) := by
 refine AFn.of_calls (uZ Tryz.func99 (by kernel_rfl) rfl) fun M w vs hg hmem hsz hrd => ?_
 obtain ⟨x, rfl, rfl, hn⟩ := zEO hsz hrd
 refine (Any.strings_Repeat Tryz.lays105 qRM x n w (by omega) (by rw [xJ rfl]; exact h)).mono ?_
 rintro e w' ⟨rfl, hb⟩
 refine ⟨_, rfl, .str (by simp) ?_, hb⟩
 rw [Lib.repeatL_length, Nat.mul_comm]; simp only [maxLen]; omega
open Sy Go Go.RowKit Go.Shelf Go.Maps Go.Sort
attribute [local go_sem] Oper.semAt_some
set_option linter.unusedSimpArgs false
set_option linter.unusedVariables false
def zR (ks : List (List UInt8)) : List (List UInt8) := ks.mergeSort fun x y => decide (x ≤ y)
theorem qSH (ks : List (List UInt8)) : (zR ks).length = ks.length := List.length_mergeSort _
set_option maxRecDepth 100000 in
set_option maxHeartbeats 2000000 in
theorem qVI (Bs : Nat) (sv : Value) (zs : List (List UInt8)) (hlen : zs.length ≤ maxLen) (hbytes : zs.length * 16 ≤ 140737488351232) (w : World) (hBs : Bs < w.heap.size) (hc0 : w.cell? ⟨Bs, 0, none⟩ = some sv) (hI : zBS w.heap.size w sv zs) :
  Calls Tryz.prog 162 #[.func (.func 209) #[] #[.pointer (some ⟨Bs, 0, none⟩)]] w fun e W' => ∃ v, e = .returned v ∧ W'.ownsRow w.heap.size 9 1 v zs.length ((zR zs).map encStr) ∧ Below w.heap.size w W' := by
 refine (callsIn_wide (n := 6)).1 ?_
 have h1 : 1 ≤ 6 := by omega
 refine callsIn_of_wp Tryz.func162 rfl trivial ?_ rfl
 simp only [Tryz.ntmps162, List.size_toArray, List.length_cons, List.length_nil, Nat.reduceAdd, Nat.reduceSub, Array.replicate_succ, Array.replicate_zero, List.push_toArray, List.append_toArray, List.nil_append, List.cons_append]
 gi_wp2_with (refine ⟨trivial, ?_⟩; gi_at_call 207; refine (zEE Fence.wide 5 trivial trivial trivial rfl (by omega) Bs sv zs hlen hbytes _ hBs hc0 hI).mono ?_; rintro e W ⟨v, rfl, hrow, hb⟩)
 rcases hrow.2 with ⟨rfl, hz⟩ | ⟨gb, cap, cur, rfl, hbase, hgb, r1, r2, r3, r4⟩
 ·have hss : zs = [] := List.eq_nil_of_length_eq_zero hz
  subst hss
  gi_wp2_with (refine ⟨trivial, ?_⟩; gi_at_call 208; refine (callsIn_wide.2 (Any.slices_Sort_string_none Tryz.lays190 none 0 W)).mono ?_; rintro e w' ⟨rfl, rfl⟩)
  go_ret
  exact ⟨.slice none 0 0, rfl, by simpa [zR] using hrow, hb⟩
 ·have hH : Holds encStr W gb 0 zs.toArray := holds_of_block hgb (by simpa using r4)
  have hgl : gb < W.heap.size := (Array.getElem?_eq_some_iff.1 hgb).1
  have cS := Any.slices_Sort_string Tryz.lays190 gb 0 cap zs W hH hgl (by omega)
  gi_wp2_with (refine ⟨trivial, ?_⟩; gi_at_call 208; refine (callsIn_wide.2 cS).mono ?_; rintro e w' ⟨rfl, nn, os, rfl⟩)
  go_ret
  exact ⟨_, rfl, ownsRow_sorted (by simp) hbase hgb r1 r2 r3, hb.grown (grownBy_sorted _) hb.size (fun j hj => by cases hj; exact hbase)⟩
theorem zJA {ba : ByteArray} {s : List UInt8} (h : ba.data.toList = s) : Value.string ba = encStr s := by
 subst h; rfl
theorem zPI {M : zB} {w : World} {u : Value} {ks : List (List UInt8)} (hmem : ∀ b o v, M b o = some v → w.cell? ⟨b, o, none⟩ = some v) (h : Rd M u (.sl 1 (ks.map PD.str))) : zBS w.heap.size w u ks ∧ ks.length ≤ maxLen ∧ ∀ s ∈ ks, s.length ≤ maxLen := by
 cases h with
 | @sl a n c _ _ b o hn hnc hcm ha h5 h6 h7 =>
 rw [List.length_map] at hn
 by_cases hk : ks = []
 ·subst hk; simp at hn; subst hn; exact ⟨.inl ⟨rfl, a, c, rfl⟩, by simp, by simp⟩
 ·have hpos : 0 < ks.length := List.length_pos_iff.2 hk
  obtain rfl := ha (by omega)
  subst hn
  have hcell : ∀ j, j < ks.length → w.cell? ⟨b, o + j, none⟩ = some (encStr (ks[j]?.getD [])) ∧ (ks[j]?.getD []).length ≤ maxLen := fun j hj => by
   have hg : (ks.map PD.str)[j]? = some (.str ks[j]) := by simp [hj]
   obtain ⟨u, hu, _⟩ := h6 j _ 0 hg (by omega)
   have h8 := h7 j _ 0 _ u hg rfl hu
   cases h8 with
   | @str ba _ hba hl =>
   have := hmem _ _ _ hu
   simp only [Nat.mul_one, Nat.add_zero] at this
   refine ⟨by rw [this, zJA hba]; simp [hj], by simpa [hj] using hl⟩
  refine ⟨.inr ⟨b, o, c, rfl, jU (hcell 0 hpos).1, fun j hj => (hcell j hj).1⟩, by omega, fun s hs => ?_⟩
  obtain ⟨j, hj, rfl⟩ := List.mem_iff_getElem.1 hs
  have := (hcell j hj).2
  simpa [hj] using this
theorem zHK (i : Nat) (ks : List (List UInt8)) (hb : ks.length * 16 ≤ 140737488351232) : AX Tryz.prog G 162 [.func (.func 209) [] [.ptr i 0]] [(i, .vars 27 [.p (.sl 1 (ks.map PD.str))])]
  (.p (.sl 1 ((zR ks).map PD.str))) [] [] := by
 refine ⟨uZ Tryz.func162 (by kernel_rfl) rfl, fun M μ w vs hg rel => ?_⟩
 have hsz : vs.size = 1 := rel.slots.1
 obtain ⟨l⟩ := vs
 match l, hsz with
 | [u], _ =>
 have hu := rel.slots.2 0 u _ rfl rfl
 cases hu with
 | @func _ fa ca _ _ h1 h2 h3 h4 =>
 obtain rfl : fa = #[] := Array.eq_empty_of_size_eq_zero h1
 obtain ⟨c⟩ := ca
 match c, h2, h4 with
 | [q], _, h4 =>
 have hq := h4 0 q _ rfl rfl
 cases hq with
 | @ptr _ _ b hblk =>
 have hbx := rel.box i (.vars 27 [.p (.sl 1 (ks.map PD.str))]) (List.mem_singleton.2 rfl)
 cases hbx with
 | @vars _ _ b' arr g0 g1 g2 g3 g4 =>
 rw [hblk] at g0
 cases g0
 obtain ⟨al⟩ := arr
 match al, g2, g1, g4 with
 | [sv], _, g1, g4 =>
 have hsv := (g4 0 sv _ rfl rfl).p_inv
 obtain ⟨hS, hlen, hsl⟩ := zPI rel.mem hsv
 have hbl : b < w.heap.size := (Array.getElem?_eq_some_iff.1 g1).1
 refine (qVI b sv ks hlen hb w hbl (by simp [World.cell?, g1]) hS).mono ?_
 rintro e w' ⟨v, rfl, hrow, hbel⟩
 have hkeep : ∀ b o v, M b o = some v → w'.cell? ⟨b, o, none⟩ = some v := fun b o v hv => by
  have h := rel.mem b o v hv
  exact (World.cell?_of_block (w := w) (hbel.block b (jU h))).trans h
 have base : ∀ M' : zB, (∀ b o v, M b o = some v → M' b o = some v) → (∀ b o v, M' b o = some v → w'.cell? ⟨b, o, none⟩ = some v) → (∀ b o, b < w.heap.size → M' b o = M b o) → Rd M' v (.sl 1 ((zR ks).map PD.str)) →
   ∃ v_1 M' μ', Ending.returned v = Ending.returned v_1 ∧ Rel ⟨w.heap.size, w, M, μ, yE μ [(i, .vars 27 [.p (.sl 1 (ks.map PD.str))])]⟩ M' μ' ⟨[.p (.sl 1 ((zR ks).map PD.str))], [], [], 0⟩ #[v_1] w' := by
  intro M' hM hmem hold hrd
  refine ⟨v, M', μ, rfl, hmem, hM, fun b o hb => hold b o (by have : ¬ w.heap.size ≤ b := fun e => hb (.inl e); omega), ⟨rfl, fun k u x hu hx => ?_⟩, fun i hi => by simp at hi, fun i b hi => by simp at hi, by simp, fun i j b hi => by simp [qO] at hi, fun i b hi => by simp [qO] at hi, hbel.size, ?_⟩
  ·cases k with
   | zero => simp at hu hx; subst hu; subst hx; exact .p hrd
   | succ k => simp at hu
  ·exact ⟨hbel.os, hbel.tape, hbel.output, hbel.size, fun k hk => hbel.block k (by have : ¬ w.heap.size ≤ k := fun e => hk (.inl e); omega)⟩
 have hsk := qSH ks
 rcases hrow.2 with ⟨rfl, hz⟩ | ⟨gb, cap, cur, rfl, hbase, hgb, r1, r2, r3, r4⟩
 ·have hks : ks = [] := List.eq_nil_of_length_eq_zero hz
  subst hks
  refine base M (fun _ _ _ h => h) hkeep (fun _ _ _ => rfl) ?_
  exact .sl 0 0 (by simp [zR]) (Nat.le_refl _) (by simp [maxLen]) (fun h => (h rfl).elim) (fun i e h => by simp [zR] at h) (fun i e j h => by simp [zR] at h) (fun i e j d u h => by simp [zR] at h)
 ·have hcell : ∀ j, w'.cell? ⟨gb, j, none⟩ = cur[j]? := fun j => zK hgb
  let M2 : zB := fun b o => if b = gb ∧ o < ks.length then cur[o]? else M b o
  have hlt : ∀ b o v, M b o = some v → b < w.heap.size := fun b o v hv => jU (rel.mem b o v hv)
  have hcur : ∀ j, j < ks.length → cur[j]? = some (encStr ((zR ks)[j]?.getD [])) := fun j hj => by
   have h5 : (cur.toList.take (ks.length * 1))[j]? = ((zR ks).map encStr)[j]? := by rw [r4]
   rw [List.getElem?_take_of_lt (by omega)] at h5
   rw [← Array.getElem?_toList, h5]; simp [show j < (zR ks).length by omega]
  have hM2 : ∀ o, o < ks.length → M2 gb o = cur[o]? := fun o ho => if_pos ⟨rfl, ho⟩
  refine base M2 (fun b o v hv => ?_) (fun b o v hv => ?_) (fun b o hb => ?_) ?_
  ·have := hlt b o v hv
   show (if b = gb ∧ o < ks.length then cur[o]? else M b o) = some v
   rw [if_neg (by omega)]; exact hv
  ·have hv' : (if b = gb ∧ o < ks.length then cur[o]? else M b o) = some v := hv
   split at hv'
   ·rename_i h; rw [h.1, hcell]; exact hv'
   ·exact hkeep b o v hv'
  ·show (if b = gb ∧ o < ks.length then cur[o]? else M b o) = M b o
   rw [if_neg (by omega)]
  ·refine .sl gb 0 (by simp [hsk]) r1 r2 (fun _ => rfl) (fun j e he => ?_) (fun j e k he hk => ?_) (fun j e k d u he hd hu => ?_)
   ·simp at he; obtain ⟨s, _, rfl⟩ := he; rfl
   ·have hj : j < ks.length := by have := (List.getElem?_eq_some_iff.1 he).1; simp [hsk] at this; exact this
    obtain rfl : k = 0 := by omega
    refine ⟨_, by simp only [Nat.mul_one, Nat.add_zero, Nat.zero_add]; rw [hM2 j hj, hcur j hj], rfl⟩
   ·have hj : j < ks.length := by have := (List.getElem?_eq_some_iff.1 he).1; simp [hsk] at this; exact this
    have hjs : j < (zR ks).length := by omega
    simp [hjs] at he
    subst he
    cases k with
    | succ k => simp [PD.cells] at hd
    | zero =>
     simp [PD.cells] at hd
     subst hd
     simp at hu
     rw [hM2 j hj, hcur j hj] at hu
     simp [hjs] at hu
     subst hu
     refine .str (by simp [encStr]) ?_
     exact hsl _ ((List.mergeSort_perm ks _).mem_iff.1 (List.getElem_mem hjs))
end Go.Proofs.YtdojfdaglbphlaaGreatDoor
namespace Go.Proofs.YtdojfdaglbphlaaGreatDoor
open Sy Go
set_option maxRecDepth 100000
set_option maxHeartbeats 4000000
set_option linter.unusedSimpArgs false
set_option linter.unusedVariables false
variable {G : qV}
def kF (a b : Int) : Int := if a < b then -1 else if b < a then 1 else 0
def jH (a b : List UInt8) : Int := if Op.bytesLess a b = true then -1 else if a = b then 0 else 1
def wC {α : Type} (p : α → α → Int) : List α → List α → Int
 | [], [] => 0
 | [], _ :: _ => -1
 | _ :: _, [] => 1
 | x :: xs, y :: ys => if p x y ≠ 0 then p x y else wC p xs ys
theorem zFS (a : Int) : AFn Tryz.prog G 159 [.int .i64 a] (.bool false) := by
 refine AFn.introU tok Tryz.func159 (by kernel_rfl) rfl rfl ?_
 simp only [Tryz.f159, qI, List.map_cons, List.map_nil]
 refine rgn [] [[0]] ?_
 refine op1 tok ?_
 refine qA ?_
 refine rgn [] [[], [], [], [2]] ?_
 iterate 4 refine op1 tok ?_
 refine qA ?_
 exact AW.ret qJ
theorem zFT (a : Int) : AFn Tryz.prog G 161 [.int .i64 a] (.bool false) := by
 refine AFn.introU tok Tryz.func161 (by kernel_rfl) rfl rfl ?_
 simp only [Tryz.f161, qI, List.map_cons, List.map_nil]
 refine rgn [] [[0]] ?_
 refine op1 tok ?_
 refine qA ?_
 refine rgn [] [[], [], [], [2]] ?_
 iterate 4 refine op1 tok ?_
 refine qA ?_
 exact AW.ret qJ
theorem zFR (a : List UInt8) : AFn Tryz.prog G 210 [.str a] (.bool false) := by
 refine AFn.introU tok Tryz.func210 (by kernel_rfl) rfl rfl ?_
 simp only [Tryz.f210, qI, List.map_cons, List.map_nil]
 refine rgn [] [[0]] ?_
 refine op1 tok ?_
 refine qA ?_
 refine rgn [] [[], [], [], [2]] ?_
 iterate 4 refine op1 tok ?_
 refine qA ?_
 exact AW.ret qJ
theorem zQP (a b : Int) : AFn Tryz.prog G 102 [.int .i64 a, .int .i64 b] (.int .i64 (kF a b)) := by
 refine AFn.introU tok Tryz.func102 (by kernel_rfl) rfl rfl ?_
 simp only [Tryz.f102, qI, List.map_cons, List.map_nil]
 refine rgn [] [[0, 1]] ?_
 refine op1 tok ?_
 refine qA ?_
 refine rgn [.nilp, .bool false] [[], [], [0, 1, 5]] ?_
 iterate 3 refine op1 tok ?_ (hv := by first | with_reducible exact True.intro | (exact zFS a; done) | omega | simp | (simp +contextual; omega))
 refine qA ?_
 refine rgn [.nilp, .bool false] [[], [], [0, 1, 5, 6]] ?_
 iterate 3 refine op1 tok ?_ (hv := by first | with_reducible exact True.intro | (exact zFS b; done) | omega | simp | (simp +contextual; omega))
 refine qA ?_
 refine AW.seq ?_
 refine rgn [] [[0, 1, 6, 11]] ?_
 refine op1 tok ?_
 refine qA ?_
 refine cnd ?_ ?_
 ·intro h11
  try simp at h11
 ·intro h11
  try simp at h11
  refine AW.skip ?_
  refine AW.seq ?_
  refine rgn [] [[0, 1, 13]] ?_
  refine op1 tok ?_
  refine qA ?_
  refine cnd ?_ ?_
  ·intro h13
   try simp at h13
  ·intro h13
   try simp at h13
   refine AW.skip ?_
   refine AW.seq ?_
   refine rgn [] [[], [], [0, 1, 16]] ?_
   iterate 3 refine op1 tok ?_
   refine qA ?_
   refine cnd ?_ ?_
   ·intro h16
    try simp at h16
    refine rgn [] [[]] ?_
    refine op1 tok ?_
    refine qA ?_
    exact AW.ret (qJ (k := by simp [kF, h16]))
   ·intro h16
    try simp at h16
    refine AW.skip ?_
    refine AW.seq ?_
    refine rgn [] [[], [], [19]] ?_
    iterate 3 refine op1 tok ?_
    refine qA ?_
    refine cnd ?_ ?_
    ·intro h19
     try simp at h19
     refine rgn [] [[]] ?_
     refine op1 tok ?_
     refine qA ?_
     exact AW.ret (qJ (k := by simp [kF, h19]; omega))
    ·intro h19
     try simp at h19
     refine AW.skip ?_
     refine rgn [] [[]] ?_
     refine op1 tok ?_
     refine qA ?_
     exact AW.ret (qJ (k := by simp [kF]; omega))
theorem zQQ (a b : Int) : AFn Tryz.prog G 106 [.int .i64 a, .int .i64 b] (.int .i64 (kF a b)) := by
 refine AFn.introU tok Tryz.func106 (by kernel_rfl) rfl rfl ?_
 simp only [Tryz.f106, qI, List.map_cons, List.map_nil]
 refine rgn [] [[0, 1]] ?_
 refine op1 tok ?_
 refine qA ?_
 refine rgn [.nilp, .bool false] [[], [], [0, 1, 5]] ?_
 iterate 3 refine op1 tok ?_ (hv := by first | with_reducible exact True.intro | (exact zFT a; done) | omega | simp | (simp +contextual; omega))
 refine qA ?_
 refine rgn [.nilp, .bool false] [[], [], [0, 1, 5, 6]] ?_
 iterate 3 refine op1 tok ?_ (hv := by first | with_reducible exact True.intro | (exact zFT b; done) | omega | simp | (simp +contextual; omega))
 refine qA ?_
 refine AW.seq ?_
 refine rgn [] [[0, 1, 6, 11]] ?_
 refine op1 tok ?_
 refine qA ?_
 refine cnd ?_ ?_
 ·intro h11
  try simp at h11
 ·intro h11
  try simp at h11
  refine AW.skip ?_
  refine AW.seq ?_
  refine rgn [] [[0, 1, 13]] ?_
  refine op1 tok ?_
  refine qA ?_
  refine cnd ?_ ?_
  ·intro h13
   try simp at h13
  ·intro h13
   try simp at h13
   refine AW.skip ?_
   refine AW.seq ?_
   refine rgn [] [[], [], [0, 1, 16]] ?_
   iterate 3 refine op1 tok ?_
   refine qA ?_
   refine cnd ?_ ?_
   ·intro h16
    try simp at h16
    refine rgn [] [[]] ?_
    refine op1 tok ?_
    refine qA ?_
    exact AW.ret (qJ (k := by simp [kF, h16]))
   ·intro h16
    try simp at h16
    refine AW.skip ?_
    refine AW.seq ?_
    refine rgn [] [[], [], [19]] ?_
    iterate 3 refine op1 tok ?_
    refine qA ?_
    refine cnd ?_ ?_
    ·intro h19
     try simp at h19
     refine rgn [] [[]] ?_
     refine op1 tok ?_
     refine qA ?_
     exact AW.ret (qJ (k := by simp [kF, h19]; omega))
    ·intro h19
     try simp at h19
     refine AW.skip ?_
     refine rgn [] [[]] ?_
     refine op1 tok ?_
     refine qA ?_
     exact AW.ret (qJ (k := by simp [kF]; omega))
theorem zQO (a b : List UInt8) : AFn Tryz.prog G 164 [.str a, .str b] (.int .i64 (jH a b)) := by
 refine AFn.introU tok Tryz.func164 (by kernel_rfl) rfl rfl ?_
 simp only [Tryz.f164, qI, List.map_cons, List.map_nil]
 refine rgn [] [[0, 1]] ?_
 refine op1 tok ?_
 refine qA ?_
 refine rgn [.nilp, .bool false] [[], [], [0, 1, 5]] ?_
 iterate 3 refine op1 tok ?_ (hv := by first | with_reducible exact True.intro | (exact zFR a; done) | omega | simp | (simp +contextual; omega))
 refine qA ?_
 refine rgn [.nilp, .bool false] [[], [], [0, 1, 5, 6]] ?_
 iterate 3 refine op1 tok ?_ (hv := by first | with_reducible exact True.intro | (exact zFR b; done) | omega | simp | (simp +contextual; omega))
 refine qA ?_
 refine AW.seq ?_
 refine rgn [] [[0, 1, 6, 11]] ?_
 refine op1 tok ?_
 refine qA ?_
 refine cnd ?_ ?_
 ·intro h11
  try simp at h11
 ·intro h11
  try simp at h11
  refine AW.skip ?_
  refine AW.seq ?_
  refine rgn [] [[0, 1, 13]] ?_
  refine op1 tok ?_
  refine qA ?_
  refine cnd ?_ ?_
  ·intro h13
   try simp at h13
  ·intro h13
   try simp at h13
   refine AW.skip ?_
   refine AW.seq ?_
   refine rgn [] [[], [], [0, 1, 16]] ?_
   iterate 3 refine op1 tok ?_
   refine qA ?_
   refine cnd ?_ ?_
   ·intro h16
    try simp at h16
    refine rgn [] [[]] ?_
    refine op1 tok ?_
    refine qA ?_
    exact AW.ret (qJ (k := by simp [jH, h16]))
   ·intro h16
    try simp at h16
    refine AW.skip ?_
    refine AW.seq ?_
    refine rgn [] [[], [], [19]] ?_
    iterate 3 refine op1 tok ?_
    refine qA ?_
    refine cnd ?_ ?_
    ·intro h19
     try simp at h19
     refine rgn [] [[]] ?_
     refine op1 tok ?_
     refine qA ?_
     exact AW.ret (qJ (k := by simp [jH, h19]))
    ·intro h19
     try simp at h19
     have hab : a = b := h19 h16
     subst hab
     refine AW.skip ?_
     refine rgn [] [[]] ?_
     refine op1 tok ?_
     refine qA ?_
     exact AW.ret (qJ (k := by simp [jH, h16]))
theorem zNQ {α : Type} (p : α → α → Int) (l : List α) : wC p l [] = if l = [] then 0 else 1 := by cases l <;> simp [wC]
theorem qUE {α : Type} {p : α → α → Int} {l m : List α} {k : Nat} {x y : α} (hx : l[k]? = some x) (hy : m[k]? = some y) : wC p (l.drop k) (m.drop k) = if p x y ≠ 0 then p x y else wC p (l.drop (k + 1)) (m.drop (k + 1)) := by
 obtain ⟨h1, rfl⟩ := List.getElem?_eq_some_iff.1 hx
 obtain ⟨h2, rfl⟩ := List.getElem?_eq_some_iff.1 hy
 rw [List.drop_eq_getElem_cons h1, List.drop_eq_getElem_cons h2]; rfl
theorem qUD {α : Type} {p : α → α → Int} {l m : List α} {k : Nat} (h1 : k < l.length) (h2 : m.length ≤ k) : wC p (l.drop k) (m.drop k) = 1 := by
 rw [List.drop_eq_nil_of_le h2, zNQ, if_neg (by intro h; have := congrArg List.length h; simp at this; omega)]
theorem zBE {α : Type} {p : α → α → Int} {l m : List α} {k : Nat} (h1 : l.length ≤ k) (hk : k ≤ l.length) (h2 : k ≤ m.length) : wC p (l.drop k) (m.drop k) = if l.length < m.length then -1 else 0 := by
 rw [List.drop_eq_nil_of_le h1]
 by_cases h : k < m.length
 ·rw [List.drop_eq_getElem_cons h, if_pos (by omega)]; rfl
 ·rw [List.drop_eq_nil_of_le (by omega), if_neg (by omega)]; rfl
theorem zNP (l m : List (List UInt8)) : AFn Tryz.prog G 109 [.sl 1 (l.map PD.str), .sl 1 (m.map PD.str)] (.int .i64 (wC jH l m)) := by
 refine AFn.introU tok Tryz.func109 (by kernel_rfl) rfl rfl ?_
 simp only [Tryz.f109, qI, List.map_cons, List.map_nil]
 refine rgn [] [[0, 1]] ?_
 refine op1 tok ?_
 refine qA ?_
 refine AW.seq ?_
 refine rgn [] [[], [], []] ?_
 iterate 3 refine op1 tok ?_
 refine qA ?_
 refine AW.block ?_
 refine AW.intFactU (i := 10) rfl (by decide) ?_; intro hlen; simp at hlen
 refine AW.loop (α := Nat) (fun k => k ≤ l.length ∧ k ≤ m.length ∧ wC jH l m = wC jH (l.drop k) (m.drop k)) (fun k => ⟨qY 36 [(0, .p (.sl 1 (l.map PD.str))), (1, .p (.sl 1 (m.map PD.str))), (9, .p (.sl 1 (l.map PD.str))), (10, .p (.int .i64 l.length)), (11, .p (.int .i64 k))], [], [], 0⟩) (fun k => l.length - k) (0) ⟨by omega, by omega, rfl⟩ ⟨qB (by simp), rfl, by simp, by simp⟩ ?_
 rintro k ⟨hk, hkm, hall⟩
 refine rgn [] [[]] ?_
 refine op1 tok ?_
 refine qA ?_
 refine AW.seq ?_
 refine cnd ?_ ?_
 ·intro h12
  try simp at h12
  obtain ⟨x, hx⟩ : ∃ x, l[k]? = some x := ⟨l[k], by simp [h12]⟩
  refine AW.skip ?_
  refine AW.seq ?_
  refine AW.block ?_
  refine rgn [.str x] [[], [], [], [], [0, 1, 5, 6, 9, 10, 11]] ?_
  iterate 5 refine op1 tok ?_ (hv := by first | with_reducible exact True.intro | (simp [hx]; done) | omega | simp | (simp +contextual; omega))
  refine qA ?_
  refine AW.seq ?_
  refine rgn [] [[], [], [], [0, 1, 5, 6, 9, 10, 11, 19]] ?_
  iterate 4 refine op1 tok ?_
  refine qA ?_
  refine cnd ?_ ?_
  ·intro h19
   try simp at h19
   have hR : wC jH l m = 1 := by rw [hall]; exact qUD (by omega) (by omega)
   refine rgn [] [[]] ?_
   refine op1 tok ?_
   refine qA ?_
   exact AW.ret (qJ (k := by simp [hR]))
  ·intro h19
   try simp at h19
   obtain ⟨y, hy⟩ : ∃ y, m[k]? = some y := ⟨m[k]'(by omega), by simp [show k < m.length by omega]⟩
   have hst := qUE (p := jH) hx hy
   refine AW.skip ?_
   refine rgn [.str y] [[], [], [], [0, 1, 6, 9, 10, 11, 23], [0, 1, 6, 7, 9, 10, 11]] ?_
   iterate 5 refine op1 tok ?_ (hv := by first | with_reducible exact True.intro | (simp [hy]; done) | omega | simp | (simp +contextual; omega))
   refine qA ?_
   refine rgn [.nilp, .int .i64 (jH x y)] [[], [], [0, 1, 9, 10, 11, 26], [0, 1, 8, 9, 10, 11]] ?_
   iterate 4 refine op1 tok ?_ (hv := by first | with_reducible exact True.intro | (exact zQO x y; done) | omega | simp | (simp +contextual; omega))
   refine qA ?_
   refine rgn [] [[], [0, 1, 8, 9, 10, 11, 28]] ?_
   iterate 2 refine op1 tok ?_
   refine qA ?_
   refine cnd ?_ ?_
   ·intro h28
    try simp at h28
    have hR : wC jH l m = jH x y := by rw [hall, hst, if_pos h28]
    refine rgn [] [[], [4]] ?_
    iterate 2 refine op1 tok ?_
    refine qA ?_
    exact AW.ret (qJ (k := by simp [hR]))
   ·intro h28
    try simp at h28
    have hnx : wC jH l m = wC jH (l.drop (k + 1)) (m.drop (k + 1)) := by rw [hall, hst, if_neg (by omega)]
    refine AW.skip ?_
    refine rgz [] [[], [0, 1, 9, 10, 11]] ?_
    iterate 2 refine op1 tok ?_
    refine qA ?_
    exact ⟨k + 1, ⟨by omega, by omega, hnx⟩, by omega, qB (by simp), rfl, by simp, by simp⟩
 ·intro h12
  try simp at h12
  have hE := zBE (p := jH) (l := l) (m := m) (k := k) (by omega) hk hkm
  rw [← hall] at hE
  refine AW.exit ?_
  simp
  refine AW.seq ?_
  refine rgn [] [[], [], [], [32, 34], [35]] ?_
  iterate 5 refine op1 tok ?_
  refine qA ?_
  refine cnd ?_ ?_
  ·intro h35
   try simp at h35
   have hR : wC jH l m = -1 := by rw [hE, if_pos (by omega)]
   refine rgn [] [[]] ?_
   refine op1 tok ?_
   refine qA ?_
   exact AW.ret (qJ (k := by simp [hR]))
  ·intro h35
   try simp at h35
   have hR : wC jH l m = 0 := by rw [hE, if_neg (by omega)]
   refine AW.skip ?_
   refine rgn [] [[]] ?_
   refine op1 tok ?_
   refine qA ?_
   exact AW.ret (qJ (k := by simp [hR]))
theorem zBB (l m : List Val) (g : FuncId) (p : Val → Val → Int) (hg : ∀ x ∈ l, ∀ y ∈ m, AFn Tryz.prog G g [x.enc, y.enc] (.int .i64 (p x y))) : AFn Tryz.prog G 105 [.sl 9 (l.map Val.enc), .sl 9 (m.map Val.enc), .fn g] (.int .i64 (wC p l m)) := by
 refine AFn.introU tok Tryz.func105 (by kernel_rfl) rfl rfl ?_
 simp only [Tryz.f105, qI, List.map_cons, List.map_nil]
 refine rgn [] [[0, 1, 2]] ?_
 refine op1 tok ?_
 refine qA ?_
 refine AW.seq ?_
 refine rgn [] [[], [], []] ?_
 iterate 3 refine op1 tok ?_
 refine qA ?_
 refine AW.block ?_
 refine AW.intFactU (i := 12) rfl (by decide) ?_; intro hlen; simp at hlen
 refine AW.loop (α := Nat) (fun k => k ≤ l.length ∧ k ≤ m.length ∧ wC p l m = wC p (l.drop k) (m.drop k)) (fun k => ⟨qY 39 [(0, .p (.sl 9 (l.map Val.enc))), (1, .p (.sl 9 (m.map Val.enc))), (2, .p (.fn g)), (11, .p (.sl 9 (l.map Val.enc))), (12, .p (.int .i64 l.length)), (13, .p (.int .i64 k))], [], [], 0⟩) (fun k => l.length - k) (0) ⟨by omega, by omega, rfl⟩ ⟨qB (by simp), rfl, by simp, by simp⟩ ?_
 rintro k ⟨hk, hkm, hall⟩
 refine rgn [] [[]] ?_
 refine op1 tok ?_
 refine qA ?_
 refine AW.seq ?_
 refine cnd ?_ ?_
 ·intro h14
  try simp at h14
  obtain ⟨x, hx⟩ : ∃ x, l[k]? = some x := ⟨l[k], by simp [h14]⟩
  refine AW.skip ?_
  refine AW.seq ?_
  refine AW.block ?_
  refine rgn [x.enc] [[], [], [], [], [], [0, 1, 2, 7, 8, 11, 12, 13]] ?_
  iterate 6 refine op1 tok ?_ (hv := by first | with_reducible exact True.intro | (simp [hx]; done) | omega | simp | (simp +contextual; omega))
  refine qA ?_
  refine AW.seq ?_
  refine rgn [] [[], [], [], [0, 1, 2, 7, 8, 11, 12, 13, 21]] ?_
  iterate 4 refine op1 tok ?_
  refine qA ?_
  refine cnd ?_ ?_
  ·intro h21
   try simp at h21
   have hR : wC p l m = 1 := by rw [hall]; exact qUD (by omega) (by omega)
   refine rgn [] [[]] ?_
   refine op1 tok ?_
   refine qA ?_
   exact AW.ret (qJ (k := by simp [hR]))
  ·intro h21
   try simp at h21
   obtain ⟨y, hy⟩ : ∃ y, m[k]? = some y := ⟨m[k]'(by omega), by simp [show k < m.length by omega]⟩
   have hst := qUE (p := p) hx hy
   have hgv := hg x (List.mem_of_getElem? hx) y (List.mem_of_getElem? hy)
   refine AW.skip ?_
   refine rgn [y.enc] [[], [], [], [0, 1, 2, 8, 11, 12, 13, 25], [], [0, 1, 2, 8, 9, 11, 12, 13]] ?_
   iterate 6 refine op1 tok ?_ (hv := by first | with_reducible exact True.intro | (simp [hy]; done) | omega | simp | (simp +contextual; omega))
   refine qA ?_
   refine rgn [.tup [x.enc, y.enc], .int .i64 (p x y)] [[], [], [], [0, 1, 2, 11, 12, 13, 29], [0, 1, 2, 10, 11, 12, 13]] ?_
   iterate 5 refine op1 tok ?_ (hv := by first | with_reducible exact True.intro | ((simp at hgv ⊢; exact hgv); done) | omega | simp | (simp +contextual; omega))
   refine qA ?_
   refine rgn [] [[], [0, 1, 2, 10, 11, 12, 13, 31]] ?_
   iterate 2 refine op1 tok ?_
   refine qA ?_
   refine cnd ?_ ?_
   ·intro h31
    try simp at h31
    have hR : wC p l m = p x y := by rw [hall, hst, if_pos h31]
    refine rgn [] [[], [6]] ?_
    iterate 2 refine op1 tok ?_
    refine qA ?_
    exact AW.ret (qJ (k := by simp [hR]))
   ·intro h31
    try simp at h31
    have hnx : wC p l m = wC p (l.drop (k + 1)) (m.drop (k + 1)) := by rw [hall, hst, if_neg (by omega)]
    refine AW.skip ?_
    refine rgz [] [[], [0, 1, 2, 11, 12, 13]] ?_
    iterate 2 refine op1 tok ?_
    refine qA ?_
    exact ⟨k + 1, ⟨by omega, by omega, hnx⟩, by omega, qB (by simp), rfl, by simp, by simp⟩
 ·intro h14
  try simp at h14
  have hE := zBE (p := p) (l := l) (m := m) (k := k) (by omega) hk hkm
  rw [← hall] at hE
  refine AW.exit ?_
  simp
  refine AW.seq ?_
  refine rgn [] [[], [], [], [35, 37], [38]] ?_
  iterate 5 refine op1 tok ?_
  refine qA ?_
  refine cnd ?_ ?_
  ·intro h38
   try simp at h38
   have hR : wC p l m = -1 := by rw [hE, if_pos (by omega)]
   refine rgn [] [[]] ?_
   refine op1 tok ?_
   refine qA ?_
   exact AW.ret (qJ (k := by simp [hR]))
  ·intro h38
   try simp at h38
   have hR : wC p l m = 0 := by rw [hE, if_neg (by omega)]
   refine AW.skip ?_
   refine rgn [] [[]] ?_
   refine op1 tok ?_
   refine qA ?_
   exact AW.ret (qJ (k := by simp [hR]))
def zIY (ks : List (List UInt8)) (s : List UInt8) : Int := if s ∈ ks then (ks.idxOf s : Int) else -1
theorem zQG (l : List (List UInt8)) (s : List UInt8) : AFn Tryz.prog G 137 [.sl 1 (l.map PD.str), .str s] (.int .i64 (zIY l s)) := by
 refine AFn.introU tok Tryz.func137 (by kernel_rfl) rfl rfl ?_
 simp only [Tryz.f137, qI, List.map_cons, List.map_nil]
 refine rgn [] [[0, 1]] ?_
 refine op1 tok ?_
 refine qA ?_
 refine AW.seq ?_
 refine rgn [] [[], [], [0, 1, 7, 8]] ?_
 iterate 3 refine op1 tok ?_
 refine qA ?_
 refine AW.block ?_
 refine AW.intFactU (i := 7) rfl (by decide) ?_; intro hlen; simp at hlen
 refine AW.loop (α := Nat) (fun k => k ≤ l.length ∧ s ∉ l.take k) (fun k => ⟨qY 19 [(0, .p (.sl 1 (l.map PD.str))), (1, .p (.str s)), (7, .p (.int .i64 l.length)), (8, .p (.int .i64 k))], [], [], 0⟩) (fun k => l.length - k) (0) ⟨by omega, by simp⟩ ⟨qB (by simp), rfl, by simp, by simp⟩ ?_
 rintro k ⟨hk, hno⟩
 refine rgn [] [[]] ?_
 refine op1 tok ?_
 refine qA ?_
 refine AW.seq ?_
 refine cnd ?_ ?_
 ·intro h9
  try simp at h9
  obtain ⟨x, hx⟩ : ∃ x, l[k]? = some x := ⟨l[k], by simp [h9]⟩
  refine AW.skip ?_
  refine AW.seq ?_
  refine AW.block ?_
  refine rgn [] [[], [0, 1, 5, 7, 8]] ?_
  iterate 2 refine op1 tok ?_
  refine qA ?_
  refine rgn [.str x] [[], [], [], [], [], [0, 1, 5, 7, 8, 16]] ?_
  iterate 6 refine op1 tok ?_ (hv := by first | with_reducible exact True.intro | (simp [hx]; done) | omega | simp | (simp +contextual; omega))
  refine qA ?_
  refine cnd ?_ ?_
  ·intro h16
   try simp at h16
   have hR : zIY l s = k := by
    have hm : s ∈ l := by rw [h16]; exact List.mem_of_getElem? hx
    unfold zIY; rw [if_pos hm]
    have : l.idxOf s = k := by
     obtain ⟨h1, h2⟩ := List.getElem?_eq_some_iff.1 hx
     have h3 := List.take_append_drop k l
     rw [← h3, List.idxOf_append, if_neg hno, List.drop_eq_getElem_cons h1, h2, h16, List.idxOf_cons_self]
     simp; omega
    rw [this]
   refine rgn [] [[], [4]] ?_
   iterate 2 refine op1 tok ?_
   refine qA ?_
   exact AW.ret (qJ (k := by simp [hR]))
  ·intro h16
   try simp at h16
   refine AW.skip ?_
   refine rgz [] [[], [0, 1, 7, 8]] ?_
   iterate 2 refine op1 tok ?_
   refine qA ?_
   exact ⟨k + 1, ⟨by omega, by rw [List.take_add_one, hx]; simp; exact ⟨hno, h16⟩⟩, by omega, qB (by simp), rfl, by simp, by simp⟩
 ·intro h9
  try simp at h9
  have hR : zIY l s = -1 := by rw [List.take_of_length_le h9] at hno; unfold zIY; rw [if_neg hno]
  refine AW.exit ?_
  simp
  refine rgn [] [[]] ?_
  refine op1 tok ?_
  refine qA ?_
  exact AW.ret (qJ (k := by simp [hR]))
theorem zTF (a b : Int) : AFn Tryz.prog G 108 [.sl 1 [.int .i64 a, .int .i64 b]] (.int .i64 (if a ≠ 0 then a else b)) := by
 refine AFn.introU tok Tryz.func108 (by kernel_rfl) rfl rfl ?_
 simp only [Tryz.f108, qI, List.map_cons, List.map_nil]
 refine rgn [] [[0]] ?_
 refine op1 tok ?_
 refine qA ?_
 refine rgn [] [[]] ?_
 refine op1 tok ?_
 refine qA ?_
 refine AW.seq ?_
 refine rgn [] [[], [], [3, 6, 7, 8]] ?_
 iterate 3 refine op1 tok ?_
 refine qA ?_
 refine AW.block ?_
 refine AW.loop (α := Nat) (fun k => k ≤ 2 ∧ (1 ≤ k → a = 0) ∧ (2 ≤ k → b = 0)) (fun k => ⟨qY 18 [(3, .p (.int .i64 0)), (6, .p (.sl 1 [.int .i64 a, .int .i64 b])), (7, .p (.int .i64 2)), (8, .p (.int .i64 k))], [], [], 0⟩) (fun k => 2 - k) (0) ⟨by omega, by omega, by omega⟩ ⟨qB (by simp), rfl, by simp, by simp⟩ ?_
 rintro k ⟨hk, h1, h2⟩
 refine rgn [] [[]] ?_
 refine op1 tok ?_
 refine qA ?_
 refine AW.seq ?_
 refine cnd ?_ ?_
 ·intro h9
  try simp at h9
  have hel : [a, b][k]? = some (if k = 0 then a else b) := by
   match k, h9 with
   | 0, _ => rfl
   | 1, _ => rfl
  have helP : [PD.int .i64 a, PD.int .i64 b][k]? = some (.int .i64 (if k = 0 then a else b)) := by
   match k, h9 with
   | 0, _ => rfl
   | 1, _ => rfl
  refine AW.skip ?_
  refine AW.seq ?_
  refine AW.block ?_
  refine rgn [.int .i64 (if k = 0 then a else b)] [[], [], [3, 5, 6, 7, 8]] ?_
  iterate 3 refine op1 tok ?_ (hv := by first | with_reducible exact True.intro | (first | exact helP | simp [helP]; done) | omega | simp | (simp +contextual; omega))
  refine qA ?_
  refine rgn [] [[], [], [3, 5, 6, 7, 8, 14]] ?_
  iterate 3 refine op1 tok ?_
  refine qA ?_
  refine cnd ?_ ?_
  ·intro h14
   try simp at h14
   have hR : (if a ≠ 0 then a else b) = (if k = 0 then a else b) := by
    by_cases hk0 : k = 0
    ·subst hk0; simp at h14 ⊢; intro e; exact absurd e h14
    ·rw [if_neg hk0, if_neg (by simp; exact h1 (by omega))]
   rw [hR]
   refine rgn [] [[], [2]] ?_
   iterate 2 refine op1 tok ?_
   refine qA ?_
   exact AW.ret qJ
  ·intro h14
   try simp at h14
   have e1 : 1 ≤ k + 1 → a = 0 := by
    intro _
    by_cases hk0 : k = 0
    ·simpa [hk0] using h14
    ·exact h1 (by omega)
   have e2 : 2 ≤ k + 1 → b = 0 := by
    intro h
    rw [if_neg (by omega)] at h14; exact h14
   refine AW.skip ?_
   refine rgz [] [[], [3, 6, 7, 8]] ?_
   iterate 2 refine op1 tok ?_
   refine qA ?_
   exact ⟨k + 1, ⟨by omega, e1, e2⟩, by omega, qB (by simp), rfl, by simp, by simp⟩
 ·intro h9
  try simp at h9
  have ha : a = 0 := h1 (by omega)
  have hb : b = 0 := h2 (by omega)
  subst ha hb
  refine AW.exit ?_
  simp
  refine rgn [] [[], [2]] ?_
  iterate 2 refine op1 tok ?_
  refine qA ?_
  exact AW.ret qJ
def qL (s : List UInt8) : Nat := s.foldl (fun n b => n * 10 + (b.toNat - 48)) 0
def dv (b : UInt8) : Nat := b.toNat - 48
theorem zS (b : UInt8) : qG b = true ↔ 48 ≤ b.toNat ∧ b.toNat ≤ 57 := by simp [qG, kS]; omega
theorem qNO (s : List UInt8) : ∀ n, s.foldl (fun n b => n * 10 + (b.toNat - 48)) n = n * 10 ^ s.length + qL s := by
 induction s with
 | nil => intro n; simp [qL]
 | cons b s ih =>
  intro n
  have e : qL (b :: s) = (b.toNat - 48) * 10 ^ s.length + qL s := by unfold qL; rw [List.foldl_cons, ih]; simp [qL]
  rw [List.foldl_cons, ih, e, List.length_cons, Nat.pow_succ, Nat.add_mul, Nat.mul_assoc, Nat.mul_comm 10, Nat.add_assoc]
theorem yM (b : UInt8) (s : List UInt8) : qL (b :: s) = (b.toNat - 48) * 10 ^ s.length + qL s := by
 unfold qL; rw [List.foldl_cons, qNO]; simp [qL]
theorem yK (s t : List UInt8) : qL (s ++ t) = qL s * 10 ^ t.length + qL t := by
 unfold qL; rw [List.foldl_append, qNO]; rfl
theorem qAP (s : List UInt8) (b : UInt8) : qL (s ++ [b]) = qL s * 10 + (b.toNat - 48) := by rw [yK]; simp [qL]
theorem kP {s : List UInt8} (h : s.all qG = true) : qL s < 10 ^ s.length := by
 induction s with
 | nil => simp [qL]
 | cons b s ih =>
  simp only [List.all_cons, Bool.and_eq_true] at h
  have h1 := (zS b).1 h.1
  have h2 := ih h.2
  rw [yM, List.length_cons, Nat.pow_succ]
  have : b.toNat - 48 ≤ 9 := by omega
  have := Nat.mul_le_mul_right (10 ^ s.length) this
  omega
theorem qGH (n : Nat) : Lib.repeatL [48] n = List.replicate n 48 := by
 induction n with
 | zero => rfl
 | succ n ih => simp [Lib.repeatL, ih, List.replicate_succ]
theorem qAV (n : Nat) : qL (List.replicate n 48) = 0 := by
 induction n with
 | zero => rfl
 | succ n ih => rw [List.replicate_succ, yM, ih]; simp
theorem qIK (s : List UInt8) (n : Nat) : qL (s ++ List.replicate n 48) = qL s * 10 ^ n := by rw [yK, qAV]; simp
theorem xS {s : List UInt8} (h : s.all qG = true) (n : Nat) : (s ++ List.replicate n 48).all qG = true := by
 rw [List.all_append, h]
 have : (List.replicate n (48 : UInt8)).all qG = true := List.all_eq_true.2 fun b hb => by rw [(List.mem_replicate.1 hb).2]; rfl
 rw [this]; rfl
def qH : Nat := 1000000000
def qP : List Nat → Nat
 | [] => 0
 | x :: xs => x + qH * qP xs
def okL (l : List Nat) : Prop := ∀ x ∈ l, x < qH
def yD (l : List Nat) : List Nat := (l.reverse.dropWhile (· == 0)).reverse
def qDZ (s : List UInt8) (e : Nat) : Nat := qL ((s.take e).drop (e - 9))
def qFN (s : List UInt8) : Nat → Nat → List Nat
 | 0, _ => []
 | f + 1, e => if 0 < e then qDZ s e :: qFN s f (e - 9) else []
theorem qMA (s : List UInt8) : ∀ (f g e : Nat), e ≤ f → e ≤ g → qFN s f e = qFN s g e
 | 0, 0, _, _, _ => rfl
 | 0, g + 1, e, h, _ => by simp only [qFN]; rw [if_neg (by omega)]
 | f + 1, 0, e, _, h => by simp only [qFN]; rw [if_neg (by omega)]
 | f + 1, g + 1, e, h1, h2 => by
  simp only [qFN]
  split
  ·rw [qMA s f g _ (by omega) (by omega)]
  ·rfl
def qBB (s : List UInt8) (e : Nat) : List Nat := qFN s e e
theorem qGQ {s : List UInt8} {e : Nat} (h : 0 < e) : qBB s e = qDZ s e :: qBB s (e - 9) := by
 unfold qBB
 rw [show e = (e - 1) + 1 by omega]
 simp only [qFN]
 rw [if_pos (by omega), qMA s (e - 1) (e - 1 + 1 - 9) _ (by omega) (by omega)]
theorem xZ (s : List UInt8) : qBB s 0 = [] := rfl
theorem qDL {s : List UInt8} (h : s.all qG = true) (n : Nat) : (s.take n).all qG = true := by
 rw [List.all_eq_true] at h ⊢; exact fun b hb => h b (List.mem_of_mem_take hb)
theorem qGD {s : List UInt8} (h : s.all qG = true) (n : Nat) : (s.drop n).all qG = true := by
 rw [List.all_eq_true] at h ⊢; exact fun b hb => h b (List.mem_of_mem_drop hb)
theorem zIT {s : List UInt8} (h : s.all qG = true) (e : Nat) : qDZ s e < qH := by
 have h1 := kP (qGD (qDL h e) (e - 9))
 have h2 : ((s.take e).drop (e - 9)).length ≤ 9 := by simp; omega
 have := Nat.pow_le_pow_right (n := 10) (by omega) h2
 unfold qDZ qH; omega
theorem qZZ {s : List UInt8} (h : s.all qG = true) : ∀ (f e : Nat), e ≤ f → okL (qBB s e)
 | 0, e, he => by rw [show e = 0 by omega, xZ]; intro x hx; cases hx
 | f + 1, e, he => by
  by_cases hp : 0 < e
  ·rw [qGQ hp]
   intro x hx
   rcases List.mem_cons.1 hx with rfl | hx
   ·exact zIT h e
   ·exact qZZ h f (e - 9) (by omega) x hx
  ·rw [show e = 0 by omega, xZ]; intro x hx; cases hx
theorem qTF {s : List UInt8} (h : s.all qG = true) : ∀ (f e : Nat), e ≤ f → e ≤ s.length → qP (qBB s e) = qL (s.take e)
 | 0, e, he, _ => by rw [show e = 0 by omega, xZ]; rfl
 | f + 1, e, he, hs => by
  by_cases hp : 0 < e
  ·rw [qGQ hp]
   simp only [qP]
   rw [qTF h f (e - 9) (by omega) (by omega)]
   have e1 : s.take e = s.take (e - 9) ++ (s.take e).drop (e - 9) := by
    have h2 := List.take_append_drop (e - 9) (s.take e)
    rw [List.take_take, Nat.min_eq_left (by omega)] at h2
    exact h2.symm
   have e2 : qL (s.take e) = qL (s.take (e - 9)) * 10 ^ ((s.take e).drop (e - 9)).length + qDZ s e := by
    rw [e1, yK, ← e1]; rfl
   rw [e2]
   by_cases h9 : 9 ≤ e
   ·have : ((s.take e).drop (e - 9)).length = 9 := by simp; omega
    rw [this]; unfold qH; omega
   ·rw [show e - 9 = 0 by omega]; simp [qL]
  ·rw [show e = 0 by omega, xZ]; rfl
theorem qBP (l : List Nat) (x : Nat) : yD (l ++ [x]) = if x = 0 then yD l else l ++ [x] := by
 unfold yD
 rw [List.reverse_append]
 simp only [List.reverse_cons, List.reverse_nil, List.nil_append, List.singleton_append, List.dropWhile_cons]
 by_cases h : x = 0
 ·simp [h]
 ·simp [h]
theorem jV (l : List Nat) (x : Nat) : qP (l ++ [x]) = qP l + qH ^ l.length * x := by
 induction l with
 | nil => simp [qP]
 | cons a l ih => simp only [List.cons_append, qP, ih, List.length_cons, Nat.pow_succ, Nat.mul_add]; rw [Nat.add_assoc, Nat.mul_comm (qH ^ l.length) qH, Nat.mul_assoc]
theorem qVJ {p : List Nat → Prop} (h0 : p []) (h1 : ∀ l x, p l → p (l ++ [x])) (l : List Nat) : p l := by
 have : ∀ r : List Nat, p r.reverse := by
  intro r
  induction r with
  | nil => exact h0
  | cons a r ih => rw [List.reverse_cons]; exact h1 _ _ ih
 simpa using this l.reverse
theorem qDQ (l : List Nat) : qP (yD l) = qP l := by
 refine qVJ (p := fun l => qP (yD l) = qP l) rfl (fun l x ih => ?_) l
 rw [qBP]
 split
 ·rename_i h; rw [ih, jV, h]; simp
 ·rfl
theorem qGJ {l : List Nat} (h : okL l) : okL (yD l) := by
 intro x hx
 unfold yD at hx
 rw [List.mem_reverse] at hx
 exact h x (List.mem_reverse.1 ((List.dropWhile_sublist _).subset hx))
def qMN (l : List Nat) : Prop := okL l ∧ l.getLast? ≠ some 0
theorem zCI {l : List Nat} (h : okL l) : qMN (yD l) := by
 refine ⟨qGJ h, ?_⟩
 refine qVJ (p := fun l => (yD l).getLast? ≠ some 0) (by simp [yD]) (fun l x ih => ?_) l
 rw [qBP]
 split
 ·exact ih
 ·rename_i h; simp; exact h
theorem qFO {l : List Nat} (h : okL l) : qP l < qH ^ l.length := by
 induction l with
 | nil => simp [qP]
 | cons a l ih =>
  have h1 := h a (by simp)
  have h2 := ih fun x hx => h x (by simp [hx])
  simp only [qP, List.length_cons, Nat.pow_succ]
  have : qH * (qP l + 1) ≤ qH * qH ^ l.length := Nat.mul_le_mul_left _ h2
  rw [Nat.mul_comm (qH ^ l.length)]
  rw [Nat.mul_add] at this; omega
theorem zMM {l : List Nat} (h : l ≠ []) (hc : l.getLast? ≠ some 0) : qH ^ (l.length - 1) ≤ qP l := by
 have hs : l = l.dropLast ++ [l.getLast h] := (List.dropLast_concat_getLast h).symm
 have hx : l.getLast h ≠ 0 := fun e => hc (by rw [← e]; exact List.getLast?_eq_some_getLast h)
 have hv : qP l = qP l.dropLast + qH ^ l.dropLast.length * l.getLast h := by
  conv => lhs; rw [hs]
  exact jV _ _
 rw [hv, List.length_dropLast]
 have : qH ^ (l.length - 1) * 1 ≤ qH ^ (l.length - 1) * l.getLast h := Nat.mul_le_mul_left _ (by omega)
 omega
theorem qPG {l m : List Nat} (hl : qMN l) (hm : qMN m) (h : l.length < m.length) : qP l < qP m := by
 have h1 := qFO hl.1
 have h2 := zMM (l := m) (by rintro rfl; simp at h) hm.2
 have h3 : qH ^ l.length ≤ qH ^ (m.length - 1) := Nat.pow_le_pow_right (by decide) (by omega)
 omega
def vH (l m : List Nat) : Nat → Int
 | 0 => 0
 | i + 1 => if l.getD i 0 = m.getD i 0 then vH l m i else if l.getD i 0 < m.getD i 0 then -1 else 1
def xW (l m : List Nat) : Int := if l.length ≠ m.length then (l.length : Int) - m.length else vH l m l.length
theorem qHP {l : List Nat} {i : Nat} (h : i < l.length) : l.take (i + 1) = l.take i ++ [l.getD i 0] := by
 rw [List.take_succ_eq_append_getElem h]; simp [List.getD_eq_getElem?_getD, h]
theorem qLO {l m : List Nat} (hl : okL l) (hm : okL m) (hlen : l.length = m.length) : ∀ i, i ≤ l.length →
  vH l m i = if qP (l.take i) < qP (m.take i) then -1 else if qP (l.take i) = qP (m.take i) then 0 else 1
 | 0, _ => by simp [vH, qP]
 | i + 1, hi => by
  have h1 := qFO (l := l.take i) fun x hx => hl x (List.mem_of_mem_take hx)
  have h2 := qFO (l := m.take i) fun x hx => hm x (List.mem_of_mem_take hx)
  have e1 : (l.take i).length = i := by simp; omega
  have e2 : (m.take i).length = i := by simp; omega
  rw [e1] at h1
  rw [e2] at h2
  rw [qHP (by omega), qHP (by omega), jV, jV, e1, e2]
  simp only [vH]
  by_cases h : l.getD i 0 = m.getD i 0
  ·rw [if_pos h, qLO hl hm hlen i (by omega), h]
   have a1 : (qP (l.take i) + qH ^ i * m.getD i 0 < qP (m.take i) + qH ^ i * m.getD i 0) = (qP (l.take i) < qP (m.take i)) := propext (by omega)
   have a2 : (qP (l.take i) + qH ^ i * m.getD i 0 = qP (m.take i) + qH ^ i * m.getD i 0) = (qP (l.take i) = qP (m.take i)) := propext (by omega)
   simp only [a1, a2]
  ·rw [if_neg h]
   by_cases h3 : l.getD i 0 < m.getD i 0
   ·rw [if_pos h3]
    have := Nat.mul_le_mul_left (qH ^ i) (show l.getD i 0 + 1 ≤ m.getD i 0 by omega)
    rw [Nat.mul_add, Nat.mul_one] at this
    rw [if_pos (by omega)]
   ·rw [if_neg h3]
    have := Nat.mul_le_mul_left (qH ^ i) (show m.getD i 0 + 1 ≤ l.getD i 0 by omega)
    rw [Nat.mul_add, Nat.mul_one] at this
    rw [if_neg (by omega), if_neg (by omega)]
def sgn (n : Int) : Int := if n < 0 then -1 else if n = 0 then 0 else 1
theorem qLX {l m : List Nat} (hl : qMN l) (hm : qMN m) : sgn (xW l m) = sgn ((qP l : Int) - qP m) := by
 unfold xW
 by_cases h : l.length = m.length
 ·rw [if_neg (by omega), qLO hl.1 hm.1 h l.length (Nat.le_refl _), List.take_length, h, List.take_length]
  unfold sgn
  split
  ·rw [if_pos (by omega), if_pos (by omega)]
  ·split
   ·rw [if_neg (by omega), if_pos rfl, if_neg (by omega), if_pos (by omega)]
   ·rw [if_neg (by omega), if_neg (by omega), if_neg (by omega), if_neg (by omega)]
 ·rw [if_pos h]
  unfold sgn
  rcases Nat.lt_or_gt_of_ne h with h1 | h1
  ·have := qPG hl hm h1
   rw [if_pos (by omega), if_pos (by omega)]
  ·have := qPG hm hl h1
   rw [if_neg (by omega), if_neg (by omega), if_neg (by omega), if_neg (by omega)]
theorem qWC (l m : List Nat) (h1 : l.length ≤ 1000000) (h2 : m.length ≤ 1000000) : -1000000 ≤ xW l m ∧ xW l m ≤ 1000000 := by
 unfold xW
 split
 ·omega
 ·have : ∀ i, -1 ≤ vH l m i ∧ vH l m i ≤ 1 := by
   intro i
   induction i with
   | zero => simp [vH]
   | succ i ih => simp only [vH]; split; · exact ih
                  ·split <;> omega
  have := this l.length; omega
def jS (s : List UInt8) : List Nat := yD (qBB s s.length)
theorem qCW {s : List UInt8} (h : s.all qG = true) : qMN (jS s) := zCI (qZZ h _ _ (Nat.le_refl _))
theorem qCV {s : List UInt8} (h : s.all qG = true) : qP (jS s) = qL s := by
 unfold jS; rw [qDQ, qTF h _ _ (Nat.le_refl _) (Nat.le_refl _), List.take_length]
theorem qTG (s : List UInt8) : ∀ (f e : Nat), e ≤ f → (qBB s e).length ≤ e
 | 0, e, he => by rw [show e = 0 by omega, xZ]; simp
 | f + 1, e, he => by
  by_cases hp : 0 < e
  ·rw [qGQ hp]; have := qTG s f (e - 9) (by omega); simp; omega
  ·rw [show e = 0 by omega, xZ]; simp
theorem qFJ (s : List UInt8) : (jS s).length ≤ s.length := by
 have h1 : (jS s).length ≤ (qBB s s.length).length := by
  unfold jS yD; rw [List.length_reverse]; have := (List.dropWhile_sublist (fun x : Nat => x == 0) (l := (qBB s s.length).reverse)).length_le; simpa using this
 have := qTG s _ s.length (Nat.le_refl _); omega
end Go.Proofs.YtdojfdaglbphlaaGreatDoor
