import Derived.Test.YtdjjmppnnkkloaaGreatDoorM4
import Derived.Test.YtdjjmppnnkkloaaGreatDoorM3
import Derived.Test.YtdjjmppnnkkloaaGreatDoorM1
import Derived.Maps.RangeRun
import Derived.Lib.Bytealg
import Derived.Lib.Join
import Derived.Lib.ValidU
import Derived.Lib.LaidU8T
import Derived.Shelf.Unicode.ValidAny
import Derived.Shelf.Unicode.DecodeAny
import Derived.Shelf.Strings.Builder1
import Derived.Shelf.Strings.OnBuilder
import Derived.Test.YtdjjmppnnkkloaaGreatDoorProg
import Derived.Lib.MapLaws
import Derived.Lib.ValidLaws
import Derived.Shelf.LaysM
import Derived.Shelf.Strconv.Itoa3
import Derived.Lib.ItoaLen
import Derived.Lib.AppendIntMem
import Derived.Lib.LaidU8
/-
  OUR OWN LAYER, 24: rows that are begun within a box.
-/
namespace Go.Proofs.YtdjjmppnnkkloaaGreatDoor.Sy
open Go
section
variable {P : Program} {T : Tab} {G : Glob} {Q : Exit → St → Prop} {st st' : St}
theorem Turned.refl (w : World) (b : Nat) : Turned w w b := ⟨rfl, rfl, rfl, rfl, fun _ _ => rfl⟩
theorem Rel.beginBox {c : Ctx} {M : FMap} {μ : Mu} {st : St} {tmps : Array Value} {w : World} (r : Rel c M μ st tmps w) {id k j : Nat} {e : TypeId} {cells : List V} (hb : boxOf id st.H = some (.vars e cells)) (hj : cells[j]? = some .nilsl)
    (hf : st.fresh k = true) (e' : TypeId) (sz : Nat) : ∃ μ', Rel c M μ' { st with H := setBox id (.vars e (cells.set j (.ms k))) ((k, .row e' sz []) :: st.H) } tmps w := by
  have hm := boxOf_mem hb
  have hk : keyIn id st.H = true := keyIn_iff.2 ⟨_, hm⟩
  have hne : id ≠ k := by
    rintro rfl
    have := (St.fresh_spec hf).2.2.2
    rw [hk] at this; cases this
  have r1 := r.adopt (l := ⟨none, .slice none 0 0⟩) hf (fun b hb => by cases hb) (bx := .row e' sz []) (.rowN (by rw [upd_same]) (by rw [upd_same]))
  have hbx := r1.box id _ (List.mem_cons_of_mem _ hm)
  cases hbx with
  | @vars _ _ b arr h0 hh hs ho hc =>
  refine ⟨_, r1.write (id := id) (b := b) (w' := w) (bx := .vars e (cells.set j (.ms k))) (by simp [keyIn, hk]) h0 (Turned.refl w b) (.vars h0 hh (by simpa using hs) ho fun i u x hu hx => ?_)⟩
  rw [List.getElem?_set] at hx
  split at hx
  · rename_i hji
    subst hji
    split at hx
    · cases hx
      have := hc j u .nilsl hu hj
      cases this
      exact .ms (by rw [upd_same]) rfl
    · cases hx
  · exact hc i u x hu hx
theorem AW.beginBox {c : Code} (id k j : Nat) (e' : TypeId) (sz : Nat) {e : TypeId} {cells : List V} (hb : boxOf id st.H = some (.vars e cells)) (hj : cells[j]? = some .nilsl) (hf : st.fresh k = true)
    (h : ({ st with H := setBox id (.vars e (cells.set j (.ms k))) ((k, .row e' sz []) :: st.H) } : St) = st') (k : AW P G c Q st') : AW P G c Q st := fun x M μ tmps w hg r => by
  obtain ⟨μ', r'⟩ := r.beginBox hb hj hf e' sz
  exact k x M μ' tmps w hg (h ▸ r')
theorem AOpsO.beginBox {ops : Array Oper} {l : List Oper} {orc : List PD} (id k j : Nat) (e' : TypeId) (sz : Nat) {e : TypeId} {cells : List V} (hb : boxOf id st.H = some (.vars e cells)) (hj : cells[j]? = some .nilsl) (hf : st.fresh k = true)
    (h : ({ st with H := setBox id (.vars e (cells.set j (.ms k))) ((k, .row e' sz []) :: st.H) } : St) = st') (k : AOpsO P G ops Q l st' orc) : AOpsO P G ops Q l st orc := fun x M μ tmps w hg r => by
  obtain ⟨μ', r'⟩ := r.beginBox hb hj hf e' sz
  exact k x M μ' tmps w hg (h ▸ r')
/-- Fewer boxes are told to lie where they lay. -/
theorem AW.pinsTo {c : Code} (ps : List Nat) (hs : ∀ i ∈ ps, i ∈ st.pins) (h : ({ st with pins := ps } : St) = st') (k : AW P G c Q st') : AW P G c Q st := fun x M μ tmps w hg r =>
  k x M μ tmps w hg (h ▸ ⟨r.mem, r.ext, r.old, r.slots, fun i hi => r.pins i (hs i hi), r.box, r.nodup, r.inj, r.own, r.size, r.below⟩)
/-- An operation under a guard that is so, whose effect is told apart. -/
theorem AOpsO.stepKIf (ks : List Nat) (d : Nat) {orc : List PD} {ops : Array Oper} {o : Oper} {rest : List Oper} {x : V} {st1 : St} {j : Nat} {pol : Bool} (hgd : o.guard = some (j, pol)) (hd : (ops[j]?).bind (·.dst) = some d)
    (h : Yields P G o st x st1) (hb : decide (d < st.tmps.length) = true ∧ V.guards pol (st.tmps.getD d .dead) = some true) (hk : (st1.put o.dst (.when true x)).keep ks = st') (k : AOpsO P G ops Q rest st' orc) : AOpsO P G ops Q (o :: rest) st orc :=
  AOps.stepIfT hgd hd (of_decide_eq_true hb.1) hb.2 h (AOps.keep ks (hk ▸ k))
theorem AW.fillE {c : Code} (id : Nat) (ns : List (Option Nat)) (h : st.fill id ns = st') (k : AW P G c Q st') : AW P G c Q st := fun x M μ tmps w hg r => k x M μ tmps w hg (h ▸ r.fill id ns)
end
end Go.Proofs.YtdjjmppnnkkloaaGreatDoor.Sy
/-
  OUR OWN LAYER, 25: maps that are written twice at a key, counted, and gone through; rows cut short.
-/
namespace Go.Proofs.YtdjjmppnnkkloaaGreatDoor.Sy
open Go
set_option linter.unusedSimpArgs false
section
variable {P : Program} {T : Tab} {G : Glob} {Q : Exit → St → Prop} {st st' : St}
/-- A map with a key laid in. -/
def mapK (ks : List (List UInt8)) (s : List UInt8) : List (List UInt8) := if s ∈ ks then ks else ks ++ [s]
def mapV (ks : List (List UInt8)) (vs : List V) (s : List UInt8) (v : V) : List V := if s ∈ ks then vs.set (ks.idxOf s) v else vs ++ [v]
theorem idx_nodup {α : Type} [BEq α] [LawfulBEq α] {l : List α} (h : l.Nodup) {j : Nat} {x : α} (hj : l[j]? = some x) : l.idxOf x = j := by
  obtain ⟨hl, hx⟩ := List.getElem?_eq_some_iff.1 hj
  rw [← hx]
  exact h.idxOf_getElem j hl
theorem y_mapPut (hT : TOK P T) {o : Oper} {t : TypeId} {m k y : Operand} {kt et : TypeId} {p q q' : Prop} {id : Nat} {s : List UInt8} {v : V} {ks : List (List UInt8)} {vs : List V} (ho : o.op = .mapUpdate t m k y) (hk : tkOf T t = some (.map kt et)) (hkt : tkOf T kt = some .str)
    (h1 : st.arg G m = (p, .ms id)) (hp : p) (h2 : st.arg G k = (q, .p (.str s))) (hq : q) (h3 : st.arg G y = (q', v)) (hq' : q') (hb : boxOf id st.H = some (.mp ks vs)) (hnd : ks.Nodup) : Yields P G o st .dead { st with H := setBox id (.mp (mapK ks s) (mapV ks vs s v)) st.H } := by
  intro c M μ tmps w hg r
  have hd := hT.map hk
  have hdk := hT.str hkt
  have e1 := arg_sound hg r h1 hp
  have e2 := (arg_sound hg r h2 hq).p_inv
  have e3 := arg_sound hg r h3 hq'
  generalize hu1 : Act.eval ⟨tmps, []⟩ m = u1 at e1
  generalize hu2 : Act.eval ⟨tmps, []⟩ k = u2 at e2
  generalize hu3 : Act.eval ⟨tmps, []⟩ y = u3 at e3
  cases e1 with
  | ms hval hone =>
  cases e2 with
  | @str ba _ hba hlen =>
  have hm := boxOf_mem hb
  have hbx := r.box id _ hm
  cases hbx with
  | @mp _ _ b clock es h0 hv h3 hB h4 h5 h6 h7 =>
  rw [hv] at hval
  subst hval
  have hks : ∀ x ∈ es.toList, MapKept.IsKey .string x.key := by
    intro x hx
    obtain ⟨i, hi, rfl⟩ := List.mem_iff_getElem.1 hx
    have hi' : i < es.size := by simpa using hi
    obtain ⟨ba', he, _⟩ := h6 i es[i] ks[i] (by simp [hi']) (by simp [show i < ks.length by omega])
    simp only [Array.getElem_toList]
    rw [he]; trivial
  have hik : MapKept.IsKey .string (.string ba) := trivial
  have hbl : b < w.heap.size := (r.own id b (keyIn_iff.2 ⟨_, hm⟩) h0).2.1
  rcases MapKept.findNow_spec hik es.toList 0 hks with ⟨g1, g2⟩ | ⟨j, e', g1, g2, g3⟩
  · have hnk : s ∉ ks := by
      intro hmem
      obtain ⟨i, hi, rfl⟩ := List.mem_iff_getElem.1 hmem
      have hi' : i < es.size := by omega
      obtain ⟨ba', he, hbs⟩ := h6 i es[i] ks[i] (by simp [hi']) (by simp [hi])
      refine g2 es[i] (by simp) ?_
      rw [he]
      congr 1
      exact ba_ext (hbs.1.trans hba.symm)
    have e : (execOp (Act.eval ⟨tmps, []⟩) o).run P w = .ok .skip { w with heap := w.heap.setIfInBounds b (.map (es.push { key := .string ba, val := u3, born := clock }) (clock + 1)) } := by
      simp [execOp, ho, hu1, hu2, hu3, Instr.mapUpdate, run_underlying hd, MapKept.run_getObj_map h3, MapKept.run_checkKey hdk hik, MapKept.run_findKey hdk g1, MapKept.run_setObj_map _ h3, Result.andThen]
    rw [e]
    simp only [mapK, mapV, if_neg hnk]
    refine ⟨M, μ, r.write (keyIn_iff.2 ⟨_, hm⟩) h0 ⟨rfl, rfl, rfl, by simp, fun k hk => by simp [Array.getElem?_setIfInBounds_ne (Ne.symm hk)]⟩ (.mp (clock := clock + 1) (es := es.push { key := .string ba, val := u3, born := clock }) h0 hv ?_ (hB.push _ _) (by simp [h4]) (by simp [h5]) ?_ ?_), .dead⟩
    · simp [Array.getElem?_setIfInBounds, hbl]
    · intro i e k he hk'
      rw [Array.getElem?_push] at he
      split at he
      · rename_i hi; cases he
        rw [List.getElem?_append_right (by omega), hi, h4] at hk'
        simp at hk'; subst hk'
        exact ⟨ba, rfl, hba, hlen⟩
      · have hi : i < es.size := (Array.getElem?_eq_some_iff.1 he).1
        rw [List.getElem?_append_left (by omega)] at hk'
        exact h6 i e k he hk'
    · intro i e x he hx
      rw [Array.getElem?_push] at he
      split at he
      · rename_i hi; cases he
        rw [List.getElem?_append_right (by omega), hi, h5] at hx
        simp at hx; subst hx
        exact e3
      · have hi : i < es.size := (Array.getElem?_eq_some_iff.1 he).1
        rw [List.getElem?_append_left (by omega)] at hx
        exact h7 i e x he hx
  · have hje : es[j]? = some e' := by simpa using g2
    have hj : j < es.size := (Array.getElem?_eq_some_iff.1 hje).1
    have hkj : ks[j]? = some s := by
      obtain ⟨ba', he, hbs⟩ := h6 j e' ks[j] hje (by simp [show j < ks.length by omega])
      rw [g3] at he
      cases he
      rw [List.getElem?_eq_getElem (by omega), ← hbs.1, hba]
    have hmk : s ∈ ks := List.mem_of_getElem? hkj
    have hidx := idx_nodup hnd hkj
    have e : (execOp (Act.eval ⟨tmps, []⟩) o).run P w = .ok .skip { w with heap := w.heap.setIfInBounds b (.map (es.modify j fun e => { e with key := .string ba, val := u3 }) clock) } := by
      simp [execOp, ho, hu1, hu2, hu3, Instr.mapUpdate, run_underlying hd, MapKept.run_getObj_map h3, MapKept.run_checkKey hdk hik, MapKept.run_findKey hdk g1, hje, g3, MapKept.run_keyThatStays hik, MapKept.run_setObj_map _ h3, Result.andThen]
    rw [e]
    simp only [mapK, mapV, if_pos hmk, hidx]
    have hmod : ∀ (i : Nat) (e : MapEntry), (es.modify j fun e => { e with key := .string ba, val := u3 })[i]? = some e → ∃ e0, es[i]? = some e0 ∧ e = if i = j then { e0 with key := .string ba, val := u3 } else e0 := fun i e he => by
      rw [Array.getElem?_modify] at he
      split at he
      · rename_i hi; subst hi
        obtain ⟨e0, h0, rfl⟩ := Option.map_eq_some_iff.1 he
        exact ⟨e0, h0, by rw [if_pos rfl]⟩
      · rename_i hi; exact ⟨e, he, by rw [if_neg (fun h => hi h.symm)]⟩
    have hborn : (es.modify j fun e => { e with key := .string ba, val := u3 }).toList.map (·.born) = es.toList.map (·.born) := by
      apply List.ext_getElem?
      intro i
      simp only [List.getElem?_map, Array.getElem?_toList, Array.getElem?_modify]
      split
      · simp [Option.map_map, Function.comp_def]
      · rfl
    refine ⟨M, μ, r.write (keyIn_iff.2 ⟨_, hm⟩) h0 ⟨rfl, rfl, rfl, by simp, fun k hk => by simp [Array.getElem?_setIfInBounds_ne (Ne.symm hk)]⟩ (.mp (clock := clock) (es := es.modify j fun e => { e with key := .string ba, val := u3 }) h0 hv ?_ ⟨fun x hx => ?_, by rw [hborn]; exact hB.2⟩ (by simpa using h4) (by simpa using h5) ?_ ?_), .dead⟩
    · simp [Array.getElem?_setIfInBounds, hbl]
    · have : x.born ∈ es.toList.map (·.born) := by rw [← hborn]; exact List.mem_map.2 ⟨x, hx, rfl⟩
      obtain ⟨y, hy, hyb⟩ := List.mem_map.1 this
      have := hB.1 y hy
      omega
    · intro i e k he hk'
      obtain ⟨e0, he0, rfl⟩ := hmod i e he
      split
      · rename_i hi; subst hi
        rw [hkj] at hk'; cases hk'
        exact ⟨ba, rfl, hba, hlen⟩
      · exact h6 i e0 k he0 hk'
    · intro i e x he hx
      obtain ⟨e0, he0, rfl⟩ := hmod i e he
      rw [List.getElem?_set] at hx
      split at hx
      · rename_i hi; subst hi
        split at hx
        · cases hx; rw [if_pos rfl]; exact e3
        · cases hx
      · rename_i hi
        rw [if_neg (fun h => hi h.symm)]
        exact h7 i e0 x he0 hx
/-- How many keys a map has. -/
theorem y_lenMap (hT : TOK P T) {o : Oper} {x : Operand} {t kt et : TypeId} {p : Prop} {id : Nat} {ks : List (List UInt8)} {vs : List V} (ho : o.op = .call { callee := .builtin .len, args := #[x], argTypes := #[t] }) (hk : tkOf T t = some (.map kt et)) (h1 : st.arg G x = (p, .ms id)) (hp : p)
    (hb : boxOf id st.H = some (.mp ks vs)) (hl : ks.length ≤ 9223372036854775807) : Yields P G o st (.p (.int .i64 ks.length)) st := by
  intro c M μ tmps w hg r
  have hd := hT.map hk
  have e1 := arg_sound hg r h1 hp
  generalize hu1 : Act.eval ⟨tmps, []⟩ x = u1 at e1
  cases e1 with
  | ms hval hone =>
  have hbx := r.box id _ (boxOf_mem hb)
  cases hbx with
  | @mp _ _ b clock es h0 hv h3 hB h4 h5 h6 h7 =>
  rw [hv] at hval
  subst hval
  have e : (execOp (Act.eval ⟨tmps, []⟩) o).run P w = .ok (.value (.int .i64 ks.length)) w := by
    simp [execOp, ho, resolve, invoke, builtin, hu1, Builtin.len_, run_underlying hd, MapKept.run_getObj_map h3, goInt, h4, Result.andThen]
  rw [e]
  exact ⟨M, μ, r, .p (Rd.intOf (by simp [kmin]) (by simp [kmax]; omega))⟩
/-- A row of one's own, cut short. -/
theorem y_cutRow (hT : TOK P T) {o : Oper} {t el : TypeId} {x y : Operand} (ho : o.op = .slice t x none (some y) none) (ht : tkOf T t = some (.sl el)) {p q : Prop} {id : Nat} {kd : IntKind} {z : Int} (n : Nat)
    (h1 : st.arg G x = (p, .ms id)) (hp : p) (h2 : st.arg G y = (q, .p (.int kd z))) (hq : q) {e sz : Nat} {es : List PD} {ti : TI} (hti : T el = some ti) (hb : boxOf id st.H = some (.row e sz es)) (hn : n ≤ es.length) (hz : z = (n : Int)) :
    Yields P G o st (.ms id) { st.kill id with H := (id, .row e sz (es.take n)) :: (st.kill id).H } := by
  subst hz
  intro c M μ tmps w hg r
  have hd := hT.sl ht
  obtain ⟨i, de, hi', _, _, hsz, _⟩ := hT.get hti
  have hso : (sizeOf el).run P w = .ok ti.size w := by simp [sizeOf, typeInfo, hi', hsz]
  have e1 := arg_sound hg r h1 hp
  have e2 := (arg_sound hg r h2 hq).p_inv
  generalize hu1 : Act.eval ⟨tmps, []⟩ x = u1 at e1
  generalize hu2 : Act.eval ⟨tmps, []⟩ y = u2 at e2
  cases e1 with
  | ms hval hone =>
  cases e2 with
  | int _ _ =>
  have hm := boxOf_mem hb
  have hk : keyIn id st.H = true := keyIn_iff.2 ⟨_, hm⟩
  have rk := r.kill id
  have hbx := r.box id _ hm
  cases hbx with
  | rowN h0 hv =>
    rw [hv] at hval
    subst hval
    obtain rfl : n = 0 := by simpa using hn
    have hbd := run_sliceBounds (P := P) (isSlice := true) (len := 0) (cap := 0) (lo := none) (hi := some (.int kd 0)) (l := 0) (h := 0) (.inl ⟨rfl, rfl⟩) (.inr ⟨kd, rfl⟩) (by omega) (by omega) (by omega) w
    have er : (execOp (Act.eval ⟨tmps, []⟩) o).run P w = .ok (.value (.slice none 0 0)) w := by
      simp at hbd
      simp [execOp, ho, hu1, hu2, Instr.sliceAt, Instr.slice, run_underlying hd, hbd, hso]
    rw [er]
    exact ⟨M, upd μ id ⟨none, .slice none 0 0⟩, rk.adopt (l := ⟨none, .slice none 0 0⟩) (fresh_kill st id) (fun b hb => by cases hb) (.rowN (by rw [upd_same]) (by rw [upd_same])), .ms (by rw [upd_same]) rfl⟩
  | @row _ _ _ b cap arr h0 hv hh has hlc hcm hone' hz hcc =>
    rw [hv] at hval
    subst hval
    have hbd := run_sliceBounds (P := P) (isSlice := true) (len := es.length) (cap := cap) (lo := none) (hi := some (.int kd n)) (l := 0) (h := n) (.inl ⟨rfl, rfl⟩) (.inr ⟨kd, rfl⟩) (by omega) (by omega) (by omega) w
    have er : (execOp (Act.eval ⟨tmps, []⟩) o).run P w = .ok (.value (.slice (some ⟨b, 0, none⟩) n cap)) w := by
      simp at hbd
      have ha : (if cap = 0 then (some (⟨b, 0, none⟩ : Addr)) else (some (⟨b, 0, none⟩ : Addr)).map (·.add (0 * ti.size))) = some ⟨b, 0, none⟩ := by
        split
        · rfl
        · simp [Addr.add]
      simp [execOp, ho, hu1, hu2, Instr.sliceAt, Instr.slice, run_underlying hd, hbd, hso]
      try simpa using ha
    rw [er]
    have hown := r.own id b hk h0
    refine ⟨M, upd μ id ⟨some b, .slice (some ⟨b, 0, none⟩) n cap⟩, rk.adopt (l := ⟨some b, .slice (some ⟨b, 0, none⟩) n cap⟩) (fresh_kill st id) (fun b' hb' => ?_) (.row (cap := cap) (by rw [upd_same]) (by rw [upd_same]; simp [Nat.min_eq_left hn]) hh has (by simp; omega) hcm hone' (fun i e' he => hz i e' ?_) fun i e' j d u he hd hu => hcc i e' j d u ?_ hd hu), .ms (by rw [upd_same]) rfl⟩
    · cases hb'; exact ⟨hown.1, hown.2.1, hown.2.2, kill_noBlk r hk h0⟩
    · rw [List.getElem?_take] at he; split at he
      · exact he
      · cases he
    · rw [List.getElem?_take] at he; split at he
      · exact he
      · cases he

theorem y_countString {o : Oper} {st : St} {x a b : Operand} {tys : Array TypeId} {f : FuncId} (he : IsExt P f Extern.BytealgCount.count)
    (ho : o.op = .call { callee := .value x, args := #[a, b], argTypes := tys }) {p q r : Prop} {s : List UInt8} {n : Int} (hf : st.arg G x = (p, .p (.fn f))) (hp : p)
    (ha : st.arg G a = (q, .p (.str s))) (hq : q) (hb : st.arg G b = (r, .p (.int .u8 n))) (hr : r) : Yields P G o st (.p (.int .i64 (s.count n.toNat.toUInt8 : Nat))) st := by
  intro c M μ tmps w hg rel
  have h1 := (arg_sound hg rel hf hp).p_inv
  have h2 := (arg_sound hg rel ha hq).p_inv
  have h3 := (arg_sound hg rel hb hr).p_inv
  generalize hu1 : Act.eval ⟨tmps, []⟩ x = u1 at h1
  generalize hu2 : Act.eval ⟨tmps, []⟩ a = u2 at h2
  generalize hu3 : Act.eval ⟨tmps, []⟩ b = u3 at h3
  cases h1
  cases h3
  cases h2 with
  | @str bb _ hs hm =>
  have e : (execOp (Act.eval ⟨tmps, []⟩) o).run P w = .ok (.value (.int .i64 (s.count n.toNat.toUInt8 : Nat))) w := by
    have e1 := he #[.string bb, .int .u8 n] w
    rw [Lib.run_countString] at e1
    subst hs
    simp only [execOp, ho, resolve, Deferred.ofValue, hu1, invoke]
    simpa [hu2, hu3, Lib.countByte] using e1
  rw [e]
  have hc : s.count n.toNat.toUInt8 ≤ s.length := List.count_le_length
  simp [maxLen] at hm
  exact ⟨M, μ, rel, .p (Rd.intOf (by simp [kmin]) (by simp only [kmax]; omega))⟩
theorem setBox_self {id : Nat} {b : Box} : ∀ {H : List (Nat × Box)}, boxOf id H = some b → setBox id b H = H
  | [], _ => rfl
  | (i, c) :: r, h => by
    simp only [boxOf] at h
    simp only [setBox]
    split at h
    · rename_i e; cases h; rw [if_pos e]
    · rename_i e; rw [if_neg e, setBox_self h]
theorem zero_made (z : Array Value) (n : Nat) : Builtin.zeroCells z n = madeCells z (n * z.size) := rfl
/-- A row of one's own whose end is cleared: what is behind its first 'n' elements. -/
theorem AOpsO.clearFrom {ops : Array Oper} {o1 o2 : Oper} {rest : List Oper} {orc : List PD} (hT : TOK P T) (ks : List Nat) {t el d : Nat} {x y : Operand} {p q : Prop} {id : Nat} {kd : IntKind} {z : Int} (n : Nat) (ho1 : o1.op = .slice t x (some y) none none) (hd1 : o1.dst = some d) (hg1 : o1.guard = none)
    (ho2 : o2.op = .call { callee := .builtin .clear, args := #[.tmp d], argTypes := #[t] }) (hd2 : o2.dst = none) (hg2 : o2.guard = none) (ht : tkOf T t = some (.sl el)) {ti : TI} (hti : T el = some ti) {zs : List V} (hzs : ti.zero.cells = some zs) (hzl : zs.length = ti.size) {e0 : PD} (hfit : V.fitsL [] zs e0.cells)
    (h1 : st.arg G x = (p, .ms id)) (hp : p) (h2 : st.arg G y = (q, .p (.int kd z))) (hq : q) {e sz : Nat} {es : List PD} (hb : boxOf id st.H = some (.row e sz es)) (hsz : sz = ti.size) (hn : n ≤ es.length) (hz : z = (n : Int)) (hdl : d < st.tmps.length)
    (k : AOpsO P G ops Q rest ((({ st with H := setBox id (.row e sz (es.take n ++ List.replicate (es.length - n) e0)) st.H } : St).put (some d) .dead).keep ks) orc) : AOpsO P G ops Q (o1 :: o2 :: rest) st orc := by
  subst hz; subst hsz
  intro c M μ tmps w hg r
  have hd := hT.sl ht
  obtain ⟨i, de, hi', _, _, hszi, _⟩ := hT.get hti
  have hso : (sizeOf el).run P w = .ok ti.size w := by simp [sizeOf, typeInfo, hi', hszi]
  have e1 := arg_sound hg r h1 hp
  have e2 := (arg_sound hg r h2 hq).p_inv
  generalize hu1 : Act.eval ⟨tmps, []⟩ x = u1 at e1
  generalize hu2 : Act.eval ⟨tmps, []⟩ y = u2 at e2
  have hts : d < tmps.size := by rw [r.slots.1]; exact hdl
  cases e1 with
  | ms hval hone =>
  cases e2 with
  | int _ _ =>
  have hm := boxOf_mem hb
  have hk : keyIn id st.H = true := keyIn_iff.2 ⟨_, hm⟩
  have key : ∀ (v1 : Value) (w1 : World), (execOp (Act.eval ⟨tmps, []⟩) o1).run P w = .ok (.value v1) w → (Builtin.clear_ #[t] o2.type #[v1]).run P w = .ok (.tuple #[]) w1 →
      Rel c M μ { st with H := setBox id (.row e ti.size (es.take n ++ List.replicate (es.length - n) e0)) st.H } tmps w1 → wpList P ops (Post c Q) (o1 :: o2 :: rest) ⟨tmps, []⟩ w := by
    intro v1 w1 er1 er2 r1
    refine wpList_plain hg1 fun K hK => wp_of_ends (next := fun v w' => v = v1 ∧ w' = w) (by rw [er1]; exact ⟨rfl, rfl⟩) ?_
    rintro u w' ⟨rfl, rfl⟩
    apply hK
    rw [Act.put_tmps, hd1]
    simp only
    have hev : Act.eval ⟨tmps.setIfInBounds d u, []⟩ (.tmp d) = u := by simp [Act.eval, hts]
    have er : (execOp (Act.eval ⟨tmps.setIfInBounds d u, []⟩) o2).run P w' = .ok (.value (.tuple #[])) w1 := by
      simp [execOp, ho2, resolve, invoke, builtin, hev, er2]
    refine wpList_plain hg2 fun K hK => wp_of_ends (next := fun v w'' => v = .tuple #[] ∧ w'' = w1) (by rw [er]; exact ⟨rfl, rfl⟩) ?_
    rintro u2 w'' ⟨rfl, rfl⟩
    apply hK
    rw [Act.put_tmps, hd2]
    simp only
    exact AOps.keep ks k c M μ _ _ hg (r1.put (.dead) (some d))
  have hbx := r.box id _ hm
  cases hbx with
  | rowN h0 hv =>
    rw [hv] at hval
    subst hval
    obtain rfl : n = 0 := by simpa using hn
    have hbd := run_sliceBounds (P := P) (isSlice := true) (len := 0) (cap := 0) (lo := some (.int kd 0)) (hi := none) (l := 0) (h := 0) (.inr ⟨kd, rfl⟩) (.inl ⟨rfl, rfl⟩) (by omega) (by omega) (by omega) w
    refine key (.slice none 0 0) w ?_ (by simp [Builtin.clear_, run_underlying hd]) ?_
    · simp at hbd
      simp [execOp, ho1, hu1, hu2, Instr.sliceAt, Instr.slice, run_underlying hd, hbd, hso]
    · rw [show (List.take 0 ([] : List PD) ++ List.replicate (([] : List PD).length - 0) e0) = [] by rfl]
      have hsame : setBox id (.row e ti.size []) st.H = st.H := setBox_self hb
      rw [hsame]
      exact r
  | @row _ _ _ b cap arr h0 hv hh has hlc hcm hone' hz hcc =>
    rw [hv] at hval
    subst hval
    have hbd := run_sliceBounds (P := P) (isSlice := true) (len := es.length) (cap := cap) (lo := some (.int kd n)) (hi := none) (l := n) (h := es.length) (.inr ⟨kd, rfl⟩) (.inl ⟨rfl, rfl⟩) (by omega) (by omega) (by omega) w
    obtain ⟨zv, hzr, hzc, _⟩ := run_zero hT hti hzs M μ w
    by_cases hne : n = es.length
    · subst hne
      refine key (.slice (if cap = es.length then some ⟨b, 0, none⟩ else (some (⟨b, 0, none⟩ : Addr)).map (·.add (es.length * ti.size))) 0 (cap - es.length)) w ?_ ?_ ?_
      · simp at hbd
        simp [execOp, ho1, hu1, hu2, Instr.sliceAt, Instr.slice, run_underlying hd, hbd, hso]
      · split <;> simp [Builtin.clear_, run_underlying hd]
      · rw [List.take_length, Nat.sub_self, List.replicate_zero, List.append_nil]
        have := r.write (w' := w) (bx := .row e ti.size es) hk h0 (Turned.refl w b) (.row h0 hv hh has hlc hcm hone' hz hcc)
        exact this
    · have hlt : n < es.length := by omega
      have hzs' : zv.cells.size = ti.size := by rw [hzc.size, hzl]
      have hmr := made_row hzc hzl hfit (es.length - n)
      have hsum : n * ti.size + (es.length - n) * ti.size = es.length * ti.size := by rw [← Nat.add_mul]; congr 1; omega
      have hcap : es.length * ti.size ≤ cap * ti.size := Nat.mul_le_mul_right _ hlc
      have hml : (madeCells zv.cells ((es.length - n) * ti.size)).toList.length = (es.length - n) * ti.size := by rw [hmr.len, List.length_replicate]
      have hst := run_storeCells_at P b (n * ti.size) e (madeCells zv.cells ((es.length - n) * ti.size)).toList 0 arr w hh (by simp only [Nat.add_zero, hml]; omega) hmr.one
      simp only [Nat.add_zero] at hst
      generalize hnew : (arr.toList.take (n * ti.size) ++ (madeCells zv.cells ((es.length - n) * ti.size)).toList ++ arr.toList.drop (n * ti.size + (madeCells zv.cells ((es.length - n) * ti.size)).toList.length)).toArray = arr' at hst
      have hrow : RowOf M ti.size es (arr.toList.take (es.length * ti.size)) := by
        rcases (r.box id _ hm).cells with ⟨rfl, h, _⟩ | ⟨b', cap', arr2, g0, gv, gh, _, _, _, _, gr⟩
        · rw [h0] at h; cases h
        · rw [h0] at g0; cases g0
          rw [hh] at gh; cases gh
          exact gr
      refine key (.slice (some ⟨b, n * ti.size, none⟩) (es.length - n) (cap - n)) (w.setRow b arr') ?_ ?_ ?_
      · simp at hbd
        have hne2 : ¬ cap = n := by omega
        have hadd : (⟨b, 0, none⟩ : Addr).add (n * ti.size) = ⟨b, n * ti.size, none⟩ := by rw [add_eq]; simp
        simp [execOp, ho1, hu1, hu2, Instr.sliceAt, Instr.slice, run_underlying hd, hbd, hso, hne2, hadd]
      · obtain ⟨m, hm'⟩ : ∃ m, es.length - n = m + 1 := ⟨es.length - n - 1, by omega⟩
        rw [hm'] at hst ⊢
        have hzm := zero_made zv.cells (m + 1)
        rw [hzs'] at hzm
        simp only [Builtin.clear_, Sem.run_bind]
        simp [run_underlying hd, hzr, hzm, hst, Result.andThen]
      · refine r.write (w' := w.setRow b arr') hk h0 (setRow_turned w b _) ?_
        have hsz' : arr'.size = arr.size := by rw [← hnew]; simp [hml]; omega
        have hR : RowOf M ti.size (es.take n ++ List.replicate (es.length - n) e0) (arr.toList.take (n * ti.size) ++ (madeCells zv.cells ((es.length - n) * ti.size)).toList) := by
          refine RowOf.append ?_ hmr
          refine ⟨by rw [List.length_take, List.length_take, Nat.min_eq_left hn, Nat.min_eq_left (by rw [Array.length_toList, has]; exact Nat.mul_le_mul_right _ (by omega))], fun u hu => hrow.one u ?_, fun j e' he => hrow.elem j e' ?_, fun j e' l d' u he hd' hu => hrow.get j e' l d' u ?_ hd' ?_⟩
          · have : arr.toList.take (n * ti.size) = (arr.toList.take (es.length * ti.size)).take (n * ti.size) := by rw [List.take_take, Nat.min_eq_left (by omega)]
            rw [this] at hu; exact List.mem_of_mem_take hu
          · rw [List.getElem?_take] at he; split at he
            · exact he
            · cases he
          · rw [List.getElem?_take] at he; split at he
            · exact he
            · cases he
          · rw [List.getElem?_take] at hu ⊢
            split at hu
            · rw [if_pos (by omega)]; exact hu
            · cases hu
        have hll : (es.take n ++ List.replicate (es.length - n) e0).length = es.length := by simp; omega
        refine hR.box (cap := cap) h0 (by rw [hll]; exact hv) (setRow_heap w b arr _ e (0, 0) hh) (by rw [hsz']; exact has) (by rw [hll]; exact hlc) hcm (fun j u hu => ?_) ?_
        · rw [← hnew, List.getElem?_toArray] at hu
          have hmem := List.mem_of_getElem? hu
          rw [List.append_assoc, List.mem_append, List.mem_append] at hmem
          rcases hmem with h | h | h
          · obtain ⟨j', hj'⟩ := List.mem_iff_getElem?.1 (List.mem_of_mem_take h)
            exact hone' j' u (by simpa using hj')
          · exact hmr.one u h
          · obtain ⟨j', hj'⟩ := List.mem_iff_getElem?.1 (List.mem_of_mem_drop h)
            exact hone' j' u (by simpa using hj')
        · rw [← hnew, hll]
          simp only [List.append_assoc]
          rw [← List.append_assoc, List.take_append_of_le_length (by simp [hml]; omega), List.take_of_length_le (by simp [hml]; omega)]
theorem eq_err (k : Nat) {t : TypeId} {ms : Array (String × TypeId)} (ht : P.underlying t = some (.interface ms)) (t' : TypeId) (v' : Value) (w : World) : (Op.equalIn (k + 1) t (.iface t' v') .nilIface).run P w = .ok false w := by
  simp [Op.equalIn, run_underlying ht]
theorem eq_noerr (k : Nat) {t : TypeId} {ms : Array (String × TypeId)} (ht : P.underlying t = some (.interface ms)) (w : World) : (Op.equalIn (k + 1) t .nilIface .nilIface).run P w = .ok true w := by
  simp [Op.equalIn, run_underlying ht]
def isIface (P : Program) (t : TypeId) : Bool := match P.underlying t with
  | some (.interface _) => true
  | _ => false
theorem isIface_spec {P : Program} {t : TypeId} (h : isIface P t = true) : ∃ ms, P.underlying t = some (.interface ms) := by
  unfold isIface at h
  split at h
  · exact ⟨_, by assumption⟩
  · cases h
/-- An error, held against nil. -/
theorem y_errNe {o : Oper} {t ty : TypeId} {x : Operand} {p : Prop} (b : Bool) (ho : o.op = .binOp .neq t x (.const .nilIface) ty) (ht : isIface P t = true) (ha : st.arg G x = (p, .p (if b = true then .err else .noerr))) (hp : p) : Yields P G o st (.p (.bool b)) st := by
  obtain ⟨ms, ht⟩ := isIface_spec ht
  intro c M μ tmps w hg r
  have h1 := (arg_sound hg r ha hp).p_inv
  generalize hu : Act.eval ⟨tmps, []⟩ x = u at h1
  have e1 : (execOp (Act.eval ⟨tmps, []⟩) o).run P w = .ok (.value (.bool b)) w := by
    cases b with
    | true =>
      simp only [if_true] at h1
      cases h1 with
      | @err t' v' =>
      have he : (Op.equal t (.iface t' v') .nilIface).run P w = .ok false w := by
        exact eq_err 9999 ht t' v' w
      have hg' : (eqGuard .neq t x (.const .nilIface) (.iface t' v') .nilIface).run P w = .ok () w := by simp only [eqGuard]; rfl
      have hb2 : (binOp .neq t (.iface t' v') .nilIface).run P w = .ok (.bool true) w := by
        show (do pure (.bool (!(← Op.equal t (.iface t' v') .nilIface))) : Sem Value).run P w = _
        simp only [Sem.run_bind, he, Result.andThen]; rfl
      simp [execOp, ho, hu, hg', hb2, show Act.eval ⟨tmps, []⟩ (.const .nilIface) = .nilIface from rfl]
    | false =>
      simp only [Bool.false_eq_true, if_false] at h1
      cases h1
      have he : (Op.equal t .nilIface .nilIface).run P w = .ok true w := by
        exact eq_noerr 9999 ht w
      have hg' : (eqGuard .neq t x (.const .nilIface) .nilIface .nilIface).run P w = .ok () w := by simp only [eqGuard]; simp
      have hb2 : (binOp .neq t .nilIface .nilIface).run P w = .ok (.bool false) w := by
        show (do pure (.bool (!(← Op.equal t .nilIface .nilIface))) : Sem Value).run P w = _
        simp only [Sem.run_bind, he, Result.andThen]; rfl
      simp [execOp, ho, hu, hg', hb2, show Act.eval ⟨tmps, []⟩ (.const .nilIface) = .nilIface from rfl]
  rw [e1]
  exact ⟨M, μ, r, .p (.bool b)⟩
/-! ### A map that is gone through -/
def MapKeys (es : Array MapEntry) (kv : List (List UInt8)) : Prop := es.size = kv.length ∧ ∀ (i : Nat) e k, es[i]? = some e → kv[i]? = some k → ∃ ba, e.key = .string ba ∧ ba.data.toList = k ∧ k.length ≤ maxLen
theorem AOpsO.rangeMap {ops : Array Oper} {o : Oper} {rest : List Oper} {orc : List PD} (hT : TOK P T) (ks : List Nat) {t kt et m : Nat} {x : Operand} {p : Prop} {kv : List (List UInt8)} {vs : List V} (i : Nat) (ho : o.op = .range t x) (ht : tkOf T t = some (.map kt et))
    (ha : st.arg G x = (p, .ms m)) (hp : p) (hb : boxOf m st.H = some (.mp kv vs)) (hf : st.fresh i = true) (hgd : o.guard = none)
    (k : ∀ (es : Array MapEntry) (clock b r : Nat), MapKeys es kv → BornOK es clock → AOpsO P G ops Q rest ((({ st with H := setBox m (.obj b (.map (some b)) (.map es clock) []) ((i, .obj r undef (.mapIter (some b) clock #[] clock) [m]) :: st.H) } : St).put o.dst (.it i)).keep ks) orc) :
    AOpsO P G ops Q (o :: rest) st orc := by
  intro c M μ tmps w hg r
  have hd := hT.map ht
  have e1 := arg_sound hg r ha hp
  generalize hu1 : Act.eval ⟨tmps, []⟩ x = u1 at e1
  cases e1 with
  | ms hval hone =>
  have hm := boxOf_mem hb
  have hbx := r.box m _ hm
  cases hbx with
  | @mp _ _ b clock es h0 hv h3 hB h4 h5 h6 h7 =>
  rw [hv] at hval
  subst hval
  have er : (execOp (Act.eval ⟨tmps, []⟩) o).run P w = .ok (.value (.pointer (some ⟨w.heap.size, 0, none⟩))) (w.alloc (.mapIter (some b) clock #[] clock)) := by
    simp [execOp, ho, hu1, run_range_map w t kt et b es clock hd h3]
  refine wpList_plain hgd fun K hK => wp_of_ends (next := fun v w' => v = .pointer (some ⟨w.heap.size, 0, none⟩) ∧ w' = w.alloc (.mapIter (some b) clock #[] clock)) (by rw [er]; exact ⟨rfl, rfl⟩) ?_
  rintro u w' ⟨rfl, rfl⟩
  apply hK
  rw [Act.put_tmps]
  have hne : m ≠ i := by
    rintro rfl
    have := (St.fresh_spec hf).2.2.2
    rw [keyIn_iff.2 ⟨_, hm⟩] at this; cases this
  have r1 := r.newBox (id := i) (bx := .obj w.heap.size undef (.mapIter (some b) clock #[] clock) [m]) (l := ⟨some w.heap.size, undef⟩) hf (Grows.alloc w (.mapIter (some b) clock #[] clock)) (fun b' hb' => by cases hb'; exact ⟨Nat.le_refl _, by simp⟩) (.obj (by rw [upd_same]) (by rw [upd_same]) (heap_alloc_new w _)) (by simp [Box.noRef, Ne.symm hne])
  have hk1 : keyIn m ((i, Box.obj w.heap.size undef (.mapIter (some b) clock #[] clock) [m]) :: st.H) = true := keyIn_iff.2 ⟨_, List.mem_cons_of_mem _ hm⟩
  have h0' : (upd μ i ⟨some w.heap.size, undef⟩ m).blk = some b := by rw [upd_ne _ _ hne]; exact h0
  have hlt : b < w.heap.size := (r.own m b (keyIn_iff.2 ⟨_, hm⟩) h0).2.1
  have r2 := r1.write (id := m) (bx := .obj b (.map (some b)) (.map es clock) []) hk1 h0' (Turned.refl _ b) (.obj h0' (by rw [upd_ne _ _ hne]; exact hv) (by rw [heap_alloc_old w _ hlt]; exact h3))
  exact AOps.keep ks (k es clock b w.heap.size ⟨h4, h6⟩ hB) c M _ _ _ hg (r2.put (.it (by
    show (upd μ i ⟨some w.heap.size, undef⟩ i).blk = some w.heap.size
    rw [upd_same])) o.dst)
theorem left_mem {es : Array MapEntry} {seen : Array Nat} {e : MapEntry} (h : e ∈ (leftOf es seen).toList) : e ∈ es.toList ∧ seen.contains e.born = false := by
  unfold leftOf at h
  simp at h
  exact ⟨by simpa using h.1, by simpa using h.2⟩
theorem left_none {es : Array MapEntry} {seen : Array Nat} (h : (leftOf es seen).size = 0) : ∀ x ∈ es.toList, seen.contains x.born = true := by
  intro x hx
  cases hc : seen.contains x.born with
  | true => rfl
  | false =>
    have : x ∈ leftOf es seen := by
      unfold leftOf
      rw [Array.mem_filter]
      exact ⟨by simpa using hx, by rw [hc]; rfl⟩
    rw [Array.eq_empty_of_size_eq_zero h] at this
    simp at this
/-- What the next look at the map tells: whether an entry is left, whichever. -/
theorem AOpsO.nextMap {ops : Array Oper} {o : Oper} {rest : List Oper} {orc : List PD} (ks : List Nat) {it : Operand} {p : Prop} {i m r0 b since c0 clock : Nat} {seen : Array Nat} {es : Array MapEntry} {v v' : Value} {rs rs' : List Nat} (ho : o.op = .next it false)
    (ha : st.arg G it = (p, .it i)) (hp : p) (hbi : boxOf i st.H = some (.obj r0 v (.mapIter (some b) since seen c0) rs)) (hbm : boxOf m st.H = some (.obj b v' (.map es clock) rs')) (hold : ∀ x ∈ es.toList, x.born < since) (hsc : since ≤ c0) (hgd : o.guard = none)
    (k : ∀ (more : Bool) (e : MapEntry), (more = false → ∀ x ∈ es.toList, seen.contains x.born = true) → (more = true → e ∈ es.toList ∧ seen.contains e.born = false) →
      AOpsO P G ops Q rest ((({ st with H := setBox i (.obj r0 v (.mapIter (some b) since (if more = true then seen.push e.born else seen) (if more = true then clock else c0)) rs) st.H } : St).put o.dst (.tuple (.p (.bool more) :: (if more = true then [.dead, .dead] else [])))).keep ks) orc) :
    AOpsO P G ops Q (o :: rest) st orc := by
  intro c M μ tmps w hg r
  have e1 := arg_sound hg r ha hp
  generalize hu1 : Act.eval ⟨tmps, []⟩ it = u1 at e1
  have hmi := boxOf_mem hbi
  have hki : keyIn i st.H = true := keyIn_iff.2 ⟨_, hmi⟩
  have hbx := r.box i _ hmi
  have hbx2 := r.box m _ (boxOf_mem hbm)
  cases e1 with
  | @it _ b' hb' =>
  cases hbx with
  | obj h0 hv hr =>
  cases hbx2 with
  | obj h0' hv' hm =>
  rw [h0] at hb'; cases hb'
  have hlt : r0 < w.heap.size := (r.own i r0 hki h0).2.1
  have key : ∀ (more : Bool) (e : MapEntry) (w1 : World) (u : Value), (execOp (Act.eval ⟨tmps, []⟩) o).run P w = .ok (.value u) w1 → Turned w w1 r0 → w1.heap[r0]? = some (.mapIter (some b) since (if more = true then seen.push e.born else seen) (if more = true then clock else c0)) →
      RV M μ u (.tuple (.p (.bool more) :: (if more = true then [.dead, .dead] else []))) → (more = false → ∀ x ∈ es.toList, seen.contains x.born = true) → (more = true → e ∈ es.toList ∧ seen.contains e.born = false) → wpList P ops (Post c Q) (o :: rest) ⟨tmps, []⟩ w := by
    intro more e w1 u er ht hh hu hm1 hm2
    refine wpList_plain hgd fun K hK => wp_of_ends (next := fun v w' => v = u ∧ w' = w1) (by rw [er]; exact ⟨rfl, rfl⟩) ?_
    rintro u' w' ⟨rfl, rfl⟩
    apply hK
    rw [Act.put_tmps]
    have r1 := r.write (id := i) (bx := .obj r0 v (.mapIter (some b) since (if more = true then seen.push e.born else seen) (if more = true then clock else c0)) rs) hki h0 ht (.obj h0 hv hh)
    exact AOps.keep ks (k more e hm1 hm2) c M μ _ _ hg (r1.put hu o.dst)
  rcases run_next_at (P := P) w o.type r0 b since c0 seen es clock hr hm hold hsc with ⟨hl, er⟩ | ⟨e, he, w1, hw, er⟩
  · refine key false default w (.tuple #[.bool false]) (by simp [execOp, ho, hu1, er]) (Turned.refl _ _) (by simpa using hr) ?_ (fun _ => left_none hl) (fun h => by cases h)
    refine .tuple rfl fun j u x hu hx => ?_
    match j with
    | 0 => simp at hu hx; subst hu; subst hx; exact .p (.bool _)
    | j + 1 => simp at hu
  · have hs : w1.heap.size = w.heap.size := by rcases hw with rfl | rfl <;> rfl
    refine key true e (ChangeMaps.setBlock w1 r0 (.mapIter (some b) since (seen.push e.born) clock)) (.tuple #[.bool true, e.key, e.val]) (by simp [execOp, ho, hu1, er]) ?_ ?_ ?_ (fun h => by cases h) fun _ => left_mem he
    · refine ⟨?_, ?_, ?_, ?_, fun j hj => ?_⟩
      · rcases hw with rfl | rfl <;> rfl
      · rcases hw with rfl | rfl <;> rfl
      · rcases hw with rfl | rfl <;> rfl
      · simp [ChangeMaps.setBlock, hs]
      · have h1 : w1.heap[j]? = w.heap[j]? := by rcases hw with rfl | rfl <;> rfl
        simp [ChangeMaps.setBlock, Array.getElem?_setIfInBounds_ne (Ne.symm hj), h1]
    · simp [ChangeMaps.setBlock, Array.getElem?_setIfInBounds, hs, hlt]
    · refine .tuple rfl fun j u x hu hx => ?_
      match j with
      | 0 => simp at hu hx; subst hu; subst hx; exact .p (.bool _)
      | 1 => simp at hu hx; subst hx; exact .dead
      | 2 => simp at hu hx; subst hx; exact .dead
      | j + 3 => simp at hu
/-- The entry that was told. -/
theorem y_entryMap {o : Oper} {it : Operand} {p : Prop} {i m r0 b since clock : Nat} {seen : Array Nat} {es : Array MapEntry} {v v' : Value} {rs rs' : List Nat} {e : MapEntry} {ba : ByteArray} {s : List UInt8} (ho : o.op = .entry it) (ha : st.arg G it = (p, .it i)) (hp : p)
    (hbi : boxOf i st.H = some (.obj r0 v (.mapIter (some b) since (seen.push e.born) clock) rs)) (hbm : boxOf m st.H = some (.obj b v' (.map es clock) rs')) (he : e ∈ es.toList) (hn : (es.toList.map (·.born)).Nodup) (hk : e.key = .string ba ∧ ba.data.toList = s ∧ s.length ≤ maxLen) :
    Yields P G o st (.tuple [.p (.str s), .dead]) st := by
  intro c M μ tmps w hg r
  have e1 := arg_sound hg r ha hp
  generalize hu1 : Act.eval ⟨tmps, []⟩ it = u1 at e1
  have hbx := r.box i _ (boxOf_mem hbi)
  have hbx2 := r.box m _ (boxOf_mem hbm)
  cases e1 with
  | @it _ b' hb' =>
  cases hbx with
  | obj h0 hv hr =>
  cases hbx2 with
  | obj h0' hv' hm =>
  rw [h0] at hb'; cases hb'
  have er : (execOp (Act.eval ⟨tmps, []⟩) o).run P w = .ok (.value (.tuple #[e.key, e.val])) w := by
    simp [execOp, ho, hu1, run_entry_at (P := P) w r0 b since seen es clock e hr hm he hn]
  rw [er]
  refine ⟨M, μ, r, .tuple rfl fun j u x hu hx => ?_⟩
  match j with
  | 0 => simp at hu hx; subst hu; subst hx; rw [hk.1]; exact .p (.str hk.2.1 hk.2.2)
  | 1 => simp at hu hx; subst hx; exact .dead
  | j + 2 => simp at hu
end
end Go.Proofs.YtdjjmppnnkkloaaGreatDoor.Sy
namespace Go.Proofs.YtdjjmppnnkkloaaGreatDoor
open Sy Go
set_option maxRecDepth 100000
set_option linter.unusedSimpArgs false
set_option linter.unusedVariables false
variable {G : Glob}

def hasPre (s p : List UInt8) : Bool := decide (p.length ≤ s.length) && decide (s.take p.length = p)
@[simp] theorem sHasPrefix_ev (s p : List UInt8) : AFn Tryz.prog G 126 [.str s, .str p] (.bool (hasPre s p)) := by
  refine AFn.intro tok Tryz.func126 (by kernel_rfl) rfl ?_
  simp only [Tryz.f126, St.start]
  refine AW.seqRun tok [] (by intro C; conv => lhs; simp) trivial ?_ -- r0 {}
  refine AW.seqRun tok [] (by intro C; conv => lhs; simp) (by simp +contextual) ?_ -- r1 {}
  exact AW.ret ⟨.inr rfl, _, _, by (conv => lhs; simp), trivial, by simp [hasPre]⟩
@[simp] theorem HasPrefix_ev (s p : List UInt8) : AFn Tryz.prog G 106 [.str s, .str p] (.bool (hasPre s p)) := by
  refine AFn.intro tok Tryz.func106 (by kernel_rfl) rfl ?_
  simp only [Tryz.f106, St.start]
  refine AW.seqRun tok [] (by intro C; conv => lhs; simp) trivial ?_ -- r0 {}
  refine AW.seqRun tok [.tup [.str s, .str p], .bool (hasPre s p)] (by intro C; conv => lhs; simp) (by simp) ?_ -- r1 {}
  exact AW.ret ⟨.inr rfl, _, _, by (conv => lhs; simp), trivial, by simp⟩
def cutPre (s p : List UInt8) : List UInt8 := if hasPre s p then s.drop p.length else s
@[simp] theorem sCutPrefix_ev (s p : List UInt8) : AFn Tryz.prog G 125 [.str s, .str p] (.tup [.str (cutPre s p), .bool (hasPre s p)]) := by
  refine AFn.intro tok Tryz.func125 (by kernel_rfl) rfl ?_
  simp only [Tryz.f125, St.start]
  refine AW.seqRun tok [] (by intro C; conv => lhs; simp) trivial ?_ -- r0 {}
  refine AW.seq ?_
  refine AW.seqRun tok [.tup [.str s, .str p], .bool (hasPre s p)] (by intro C; conv => lhs; simp) (by simp) ?_ -- r1 {t8:CALL call f38(t6, t7) args,res}
  refine AW.cond (c := .tmp 9) (by conv => lhs; simp) trivial ?_ ?_
  · intro h1
    simp at h1
    refine AW.seqRun tok [] (by intro C; conv => lhs; simp) trivial ?_ -- r2 {}
    exact AW.ret ⟨.inr rfl, _, _, by (conv => lhs; simp), trivial, by simp [cutPre, h1]⟩
  · intro h1
    simp at h1
    refine AW.skip ?_
    refine AW.seqRun tok [] (by intro C; conv => lhs; simp) (by simp [hasPre] at h1 ⊢; omega) ?_ -- r3 {}
    exact AW.ret ⟨.inr rfl, _, _, by (conv => lhs; simp), trivial, by simp [cutPre, h1]⟩
@[simp] theorem CutPrefix_ev (s p : List UInt8) : AFn Tryz.prog G 103 [.str s, .str p] (.tup [.str (cutPre s p), .bool (hasPre s p)]) := by
  refine AFn.intro tok Tryz.func103 (by kernel_rfl) rfl ?_
  simp only [Tryz.f103, St.start]
  refine AW.seqRun tok [] (by intro C; conv => lhs; simp) trivial ?_ -- r0 {}
  refine AW.seqRun tok [.tup [.str s, .str p], .tup [.str (cutPre s p), .bool (hasPre s p)]] (by intro C; conv => lhs; simp) (by simp) ?_ -- r1 {}
  exact AW.ret ⟨.inr rfl, _, _, by (conv => lhs; simp), trivial, by simp⟩

theorem ext68 : IsExt Tryz.prog 157 Extern.BytealgIndexByte.indexByte := fun args w => run_callFunc_extern Tryz.func157 (by kernel_rfl) (by kernel_rfl) (by kernel_rfl) (by kernel_rfl) args w
@[simp] theorem sIndexByte_ev (s : List UInt8) (n : Int) : AFn Tryz.prog G 138 [.str s, .int .u8 n] (.int .i64 (Lib.indexByte s n.toNat.toUInt8)) := by
  refine AFn.intro tok Tryz.func138 (by kernel_rfl) rfl ?_
  simp only [Tryz.f138, St.start]
  refine AW.seqRun tok [] (by intro C; conv => lhs; simp) trivial ?_ -- r0 {}
  refine AW.seqRunX tok 2 [] [] rfl rfl (by intro C; conv => lhs; simp) trivial (y_indexByte (s := s) (n := n) (p := True) (q := True) (r := True) ext68 rfl (by simp) trivial (by simp) trivial (by simp) trivial) (by intro C; conv => lhs; simp) trivial ?_
  exact AW.ret ⟨.inr rfl, _, _, by (conv => lhs; simp), trivial, by simp⟩
@[simp] theorem IndexByte_ev (s : List UInt8) (n : Int) : AFn Tryz.prog G 115 [.str s, .int .u8 n] (.int .i64 (Lib.indexByte s n.toNat.toUInt8)) := by
  refine AFn.intro tok Tryz.func115 (by kernel_rfl) rfl ?_
  simp only [Tryz.f115, St.start]
  refine AW.seqRun tok [] (by intro C; conv => lhs; simp) trivial ?_ -- r0 {}
  refine AW.seqRun tok [.tup [.str s, .int .u8 n], .int .i64 (Lib.indexByte s n.toNat.toUInt8)] (by intro C; conv => lhs; simp) (by simp) ?_ -- r1 {}
  exact AW.ret ⟨.inr rfl, _, _, by (conv => lhs; simp), trivial, by simp⟩
end Go.Proofs.YtdjjmppnnkkloaaGreatDoor
namespace Go.Proofs.YtdjjmppnnkkloaaGreatDoor
open Sy Go
set_option maxRecDepth 100000
set_option linter.unusedSimpArgs false
set_option linter.unusedVariables false
variable {G : Glob}

def asF (cs : List UInt8) (i : Nat) : Bool := cs.any fun b => b.toNat == i
theorem asF_snoc (cs : List UInt8) (c : UInt8) (n : Nat) : rowP n (fun k => decide (k = c.toNat) || asF cs k) = rowP n (asF (cs ++ [c])) := rowP_congr fun i _ => by
  by_cases h : i = c.toNat
  · simp [asF, h]
  · simp [asF, h, Ne.symm h]

def asS (cs : List UInt8) (a : Nat) : St := ⟨[.p (.str cs), .dead, .ptr 2 0, .dead, .p (.int .i64 a)] ++ List.replicate 16 .dead, [], [(2, .vars 155 (pcells (rowP 256 (asF (cs.take a)))))], 0⟩
theorem makeASCIISet_ev (cs : List UInt8) (hcs : ∀ b ∈ cs, b.toNat < 128) : AFn Tryz.prog G 133 [.str cs] (.tup [.agg (rowP 256 (asF cs)), .bool true]) := by
  refine AFn.intro tok Tryz.func133 (by kernel_rfl) rfl ?_
  simp only [Tryz.f133, St.start]
  refine AW.strFact (i := 0) rfl ?_
  intro hlen
  refine AW.seqRun tok [] (by intro C; conv => lhs; simp) (by simp) ?_ -- r0 {}
  refine AW.seq ?_
  refine AW.seqRun tok [] (by intro C; conv => lhs; simp) trivial ?_ -- r1 {}
  refine AW.block ?_
  -- LOOP
  refine AW.loop (α := Nat) (fun a => a ≤ cs.length) (fun a => asS cs a) (fun a => cs.length - a) 0 (by omega) ⟨by simp [asS], rfl, by simp [asS, reps_row]; rfl, by simp [asS]⟩ ?_
  intro a hI
  simp only [asS]
  refine AW.seq ?_
  refine AW.seqRun tok [] (by intro C; conv => lhs; simp) trivial ?_ -- r2 {}
  refine AW.cond (c := .tmp 9) (by conv => lhs; simp) trivial ?_ ?_
  · intro h1
    simp at h1
    obtain ⟨c, hc⟩ : ∃ c, cs[a]? = some c := ⟨cs[a], by simp [h1]⟩
    have hclt := hcs c (List.mem_of_getElem? hc)
    have hst : asF (cs.take (a + 1)) = asF (cs.take a ++ [c]) := by rw [List.take_add_one, hc]; rfl
    refine AW.skip ?_
    refine AW.seq ?_
    refine AW.block ?_
    refine AW.seqRun tok [.int .u8 c.toNat] (by intro C; conv => lhs; simp) (by simp [hc]) ?_ -- r4 {t14:sidx}
    refine AW.seq ?_
    refine AW.seqRun tok [] (by intro C; conv => lhs; simp) trivial ?_ -- r5 {}
    refine AW.cond (c := .tmp 16) (by conv => lhs; simp) trivial ?_ ?_
    · intro h2
      simp at h2
      omega
    · intro h2
      simp at h2
      refine AW.skip ?_
      refine AW.run tok [] (by intro C; conv => lhs; simp) (by omega) ?_ -- r7 {t19:index; storerow e0 e1}
      refine AW.run tok [] (by intro C; conv => lhs; simp) (by omega) ?_ -- r3 {}
      exact ⟨a + 1, by omega, by omega, by simp [asS], rfl, by simp [asS, hst]; exact congrArg pcells (asF_snoc _ _ _).symm, by simp [asS]⟩ -- END OF ROUND
  · intro h1
    simp at h1
    have hall : cs.take a = cs := List.take_of_length_le h1
    rw [hall]
    refine AW.exit ?_ -- exit 0
    simp
    refine AW.seqRun tok [] (by intro C; conv => lhs; simp) (by simp) ?_ -- r8 {}
    exact AW.ret ⟨.inr rfl, _, _, by (conv => lhs; simp), by simp, by simp⟩

theorem contains_ev (F : Nat → Bool) (n : Int) (h0 : 0 ≤ n) (h1 : n < 256) : AX Tryz.prog G 154 [.ptr 5 0, .p (.int .u8 n)] [(5, .vars 155 (pcells (rowP 256 F)))] (.p (.bool (F n.toNat))) [5] [(5, .vars 155 (pcells (rowP 256 F)))] := by
  refine AX.intro tok 2000 Tryz.func154 (by kernel_rfl) rfl ?_
  simp only [Tryz.f154, St.startX]
  refine AW.seqRun tok [] (by intro C; conv => lhs; simp) trivial ?_ -- r0 {}
  refine AW.seqRun tok [.bool (F n.toNat)] (by intro C; conv => lhs; simp) (by simp [rowP_get (show n.toNat < 256 by omega)]; omega) ?_ -- r1 {t8:index; t9:load}
  exact AW.ret ⟨.inr rfl, _, _, by (conv => lhs; simp), trivial, by simp, by simp, by simp, by simp⟩

def trimL (F : Nat → Bool) (s : List UInt8) : List UInt8 := s.dropWhile fun b => F b.toNat
def trimR (F : Nat → Bool) (s : List UInt8) : List UInt8 := (s.reverse.dropWhile fun b => F b.toNat).reverse
def tlS (r : List UInt8) (F : Nat → Bool) : St := ⟨[.p (.str r), .ptr 5 0] ++ List.replicate 14 .dead, [5], [(5, .vars 155 (pcells (rowP 256 F)))], 1000⟩
theorem trimLeftASCII_ev (F : Nat → Bool) (s : List UInt8) : AX Tryz.prog G 134 [.p (.str s), .ptr 5 0] [(5, .vars 155 (pcells (rowP 256 F)))] (.p (.str (trimL F s))) [5] [(5, .vars 155 (pcells (rowP 256 F)))] := by
  refine AX.intro tok 1000 Tryz.func134 (by kernel_rfl) rfl ?_
  simp only [Tryz.f134, St.startX]
  refine AW.seqRun tok [] (by intro C; conv => lhs; simp) trivial ?_ -- r0 {}
  refine AW.seq ?_
  refine AW.block ?_
  -- LOOP
  refine AW.loop (α := List UInt8) (fun r => trimL F r = trimL F s) (fun r => tlS r F) (fun r => r.length) s rfl ⟨by simp [tlS], rfl, by simp [tlS], by simp [tlS]⟩ ?_
  intro r hI
  simp only [tlS]
  refine AW.seq ?_
  refine AW.seqRun tok [] (by intro C; conv => lhs; simp) trivial ?_ -- r1 {}
  refine AW.cond (c := .tmp 7) (by conv => lhs; simp) trivial ?_ ?_
  · intro h1
    simp at h1
    obtain ⟨b, r, rfl⟩ : ∃ b r', r = b :: r' := by
      cases r with
      | nil => simp at h1
      | cons b r => exact ⟨b, r, rfl⟩
    have hb : b.toNat < 256 := b.toNat_lt
    refine AW.skip ?_
    refine AW.block ?_
    refine AW.seq ?_
    refine AW.seqRunX tok 3 [.int .u8 b.toNat] [] rfl rfl (by intro C; conv => lhs; simp) (by simp) (y_cx rfl (contains_ev F b.toNat (by omega) (by omega)) (by simp)) (by intro C; conv => lhs; simp) trivial ?_ -- r2 {t10:sidx; t11:CALL call f65(t8, t10) args,res}
    refine AW.cond (c := .tmp 12) (by conv => lhs; simp) trivial ?_ ?_
    · intro h2
      simp at h2
      refine AW.exit ?_ -- exit 0
      simp
      refine AW.seqRun tok [] (by intro C; conv => lhs; simp) trivial ?_ -- r4 {}
      exact AW.ret ⟨.inr rfl, _, _, by (conv => lhs; simp), trivial, by rw [← hI]; simp [trimL, h2], by simp, by simp, by simp⟩
    · intro h2
      simp at h2
      refine AW.skip ?_
      refine AW.run tok [] (by intro C; conv => lhs; simp) (by omega) ?_ -- r3 {}
      exact ⟨r, by rw [← hI]; simp [trimL, h2], by simp, by simp [tlS], rfl, by simp [tlS], by simp [tlS]⟩ -- END OF ROUND
  · intro h1
    simp at h1
    subst h1
    refine AW.exit ?_ -- exit 0
    simp
    refine AW.seqRun tok [] (by intro C; conv => lhs; simp) trivial ?_ -- r4 {}
    exact AW.ret ⟨.inr rfl, _, _, by (conv => lhs; simp), trivial, by rw [← hI]; simp [trimL], by simp, by simp, by simp⟩

theorem trimRightASCII_ev (F : Nat → Bool) (s : List UInt8) : AX Tryz.prog G 135 [.p (.str s), .ptr 5 0] [(5, .vars 155 (pcells (rowP 256 F)))] (.p (.str (trimR F s))) [5] [(5, .vars 155 (pcells (rowP 256 F)))] := by
  refine AX.intro tok 1000 Tryz.func135 (by kernel_rfl) rfl ?_
  simp only [Tryz.f135, St.startX]
  refine AW.strFact (i := 0) rfl ?_
  intro hlen
  refine AW.seqRun tok [] (by intro C; conv => lhs; simp) trivial ?_ -- r0 {}
  refine AW.seq ?_
  refine AW.block ?_
  -- LOOP
  refine AW.loop (α := List UInt8) (fun r => trimR F r = trimR F s ∧ r.length ≤ s.length) (fun r => ⟨[.p (.str r), .ptr 5 0] ++ List.replicate 20 .dead, [5], [(5, .vars 155 (pcells (rowP 256 F)))], 1000⟩) (fun r => r.length) s ⟨rfl, Nat.le_refl _⟩ ⟨by simp, rfl, by simp, by simp⟩ ?_
  rintro r ⟨hI, hrl⟩
  refine AW.seq ?_
  refine AW.seqRun tok [] (by intro C; conv => lhs; simp) trivial ?_ -- r1 {}
  refine AW.cond (c := .tmp 7) (by conv => lhs; simp) trivial ?_ ?_
  · intro h1
    simp at h1
    obtain ⟨r, b, rfl⟩ : ∃ r' b, r = r' ++ [b] := ⟨r.dropLast, r.getLast (by rintro rfl; simp at h1), (List.dropLast_concat_getLast _).symm⟩
    have hb : b.toNat < 256 := b.toNat_lt
    simp at hrl
    refine AW.skip ?_
    refine AW.block ?_
    refine AW.seq ?_
    refine AW.seqRunX tok 6 [.int .u8 b.toNat] [] rfl rfl (by intro C; conv => lhs; simp) (by omega) (y_cx rfl (contains_ev F b.toNat (by omega) (by omega)) (by simp)) (by intro C; conv => lhs; simp) trivial ?_ -- r2 {t13:sidx; t14:CALL call f65(t8, t13) args,res}
    refine AW.cond (c := .tmp 15) (by conv => lhs; simp) trivial ?_ ?_
    · intro h2
      simp at h2
      refine AW.exit ?_ -- exit 0
      simp
      refine AW.seqRun tok [] (by intro C; conv => lhs; simp) trivial ?_ -- r4 {}
      exact AW.ret ⟨.inr rfl, _, _, by (conv => lhs; simp), trivial, by rw [← hI]; simp [trimR, h2], by simp, by simp, by simp⟩
    · intro h2
      simp at h2
      refine AW.skip ?_
      refine AW.run tok [] (by intro C; conv => lhs; simp) (by omega) ?_ -- r3 {}
      exact ⟨r, ⟨by rw [← hI]; simp [trimR, h2], by omega⟩, by simp, by simp, rfl, by simp, by simp⟩ -- END OF ROUND
  · intro h1
    simp at h1
    subst h1
    refine AW.exit ?_ -- exit 0
    simp
    refine AW.seqRun tok [] (by intro C; conv => lhs; simp) trivial ?_ -- r4 {}
    exact AW.ret ⟨.inr rfl, _, _, by (conv => lhs; simp), trivial, by rw [← hI]; simp [trimR], by simp, by simp, by simp⟩

def trimM (s cs : List UInt8) : List UInt8 := trimL (asF cs) (trimR (asF cs) s)
theorem Trim_ev (s cs : List UInt8) (h2 : 2 ≤ cs.length) (hcs : ∀ b ∈ cs, b.toNat < 128) : AFn Tryz.prog G 114 [.str s, .str cs] (.str (trimM s cs)) := by
  refine AFn.intro tok Tryz.func114 (by kernel_rfl) rfl ?_
  simp only [Tryz.f114, St.start]
  have hne : cs ≠ [] := by rintro rfl; simp at h2
  refine AW.seqRun tok [] (by intro C; conv => lhs; simp) trivial ?_ -- r0 {}
  refine AW.seq ?_
  refine AW.seqRun tok [] (by intro C; conv => lhs; simp) (by simp +contextual) ?_ -- r1
  refine AW.cond (c := .tmp 12) (by conv => lhs; simp) trivial ?_ ?_
  · intro h3
    simp [hne] at h3
    subst h3
    refine AW.seqRun tok [] (by intro C; conv => lhs; simp) trivial ?_ -- r2
    exact AW.ret ⟨.inr rfl, _, _, by (conv => lhs; simp), trivial, by simp [trimM, trimL, trimR]⟩
  · intro h3
    simp [hne] at h3
    refine AW.skip ?_
    refine AW.seq ?_
    refine AW.seqRun tok [.int .u8 0] (by intro C; conv => lhs; simp) (by simp +contextual; omega) ?_ -- r3
    refine AW.cond (c := .tmp 21) (by conv => lhs; simp) trivial ?_ ?_
    · intro h4
      simp at h4
      omega
    · intro h4
      refine AW.skip ?_
      refine AW.seq ?_
      refine AW.seqRun tok [.tup [.str cs], .tup [.agg (rowP 256 (asF cs)), .bool true]] (by intro C; conv => lhs; simp) (by simp [makeASCIISet_ev cs hcs]) ?_ -- r5
      refine AW.seqRun tok [] (by intro C; conv => lhs; simp) trivial ?_ -- r6
      refine AW.cond (c := .tmp 34) (by conv => lhs; simp) trivial ?_ ?_
      · intro _
        refine AW.seq (AW.region (AOps.pref tok 1 [] (by intro C; conv => lhs; simp) trivial ?_))
        simp only [List.drop_succ_cons, List.drop_zero]
        refine AOps.step rfl (y_cx rfl (trimRightASCII_ev (asF cs) s) (by simp)) ?_
        refine AOps.step rfl (y_cx rfl (trimLeftASCII_ev (asF cs) (trimR (asF cs) s)) (by simp)) ?_
        refine AOps.all tok [] (by intro C; conv => lhs; simp) trivial ?_
        exact AW.ret ⟨.inr rfl, _, _, by (conv => lhs; simp), trivial, by simp [trimM]⟩
      · intro h; simp at h
end Go.Proofs.YtdjjmppnnkkloaaGreatDoor
namespace Go.Proofs.YtdjjmppnnkkloaaGreatDoor
open Sy Go
set_option maxRecDepth 100000
set_option linter.unusedSimpArgs false
set_option linter.unusedVariables false
variable {G : Glob}

def letters : List UInt8 := [97, 98, 99, 100, 101, 102, 103, 104, 105, 106, 107, 108, 109, 110, 111, 112, 113, 114, 115, 116, 117, 118, 119, 120, 121, 122]
def nameSet : List UInt8 := [97, 98, 99, 100, 101, 102, 103, 104, 105, 106, 107, 108, 109, 110, 111, 112, 113, 114, 115, 116, 117, 118, 119, 120, 121, 122, 48, 49, 50, 51, 52, 53, 54, 55, 56, 57, 95]
theorem dropWhile_nil {p : UInt8 → Bool} : ∀ {l : List UInt8}, l.dropWhile p = [] ↔ ∀ b ∈ l, p b = true
  | [] => by simp
  | a :: l => by
    have ih := dropWhile_nil (p := p) (l := l)
    cases h : p a with
    | true => simp [List.dropWhile_cons, h, ih]
    | false => simp [List.dropWhile_cons, h]
theorem dropWhile_head {p : UInt8 → Bool} : ∀ {l r : List UInt8} {c : UInt8}, l.dropWhile p = c :: r → p c = false
  | [], _, _, h => by simp at h
  | a :: l, r, c, h => by
    cases hp : p a with
    | true => simp [List.dropWhile_cons, hp] at h; exact dropWhile_head h
    | false => simp [List.dropWhile_cons, hp] at h; rw [← h.1]; exact hp
theorem trimM_nil (s cs : List UInt8) : trimM s cs = [] ↔ ∀ b ∈ s, asF cs b.toNat = true := by
  unfold trimM trimL
  rw [dropWhile_nil]
  unfold trimR
  constructor
  · intro h b hb
    have h2 : (s.reverse.dropWhile fun b => asF cs b.toNat) = [] := by
      cases hd : (s.reverse.dropWhile fun b => asF cs b.toNat) with
      | nil => rfl
      | cons c r =>
        have h3 := h c (by rw [hd]; simp)
        have h4 := dropWhile_head hd
        rw [h3] at h4; cases h4
    rw [dropWhile_nil] at h2
    exact h2 b (by simpa using hb)
  · intro h b hb
    simp only [List.mem_reverse] at hb
    exact h b (by simpa using List.Sublist.mem hb (List.dropWhile_sublist _))
theorem indexByte_mem (l : List UInt8) (c : UInt8) : 0 ≤ Lib.indexByte l c ↔ c ∈ l := by
  induction l with
  | nil => simp [Lib.indexByte]
  | cons b l ih =>
    have hge := Lib.indexByte_ge l c
    unfold Lib.indexByte
    by_cases h : b = c
    · subst h; simp
    · simp only [beq_iff_eq, h, if_false, List.mem_cons, Ne.symm h, false_or, ← ih]
      by_cases h2 : Lib.indexByte l c = -1
      · simp [h2]
      · simp only [h2, if_false]; omega
def mayNameM (s : List UInt8) : Bool := (s.all fun b => asF nameSet b.toNat) && (decide (s.length ≤ 24) && match s with
  | b :: _ => decide (b ∈ letters)
  | [] => false)
theorem MayName_ev (s : List UInt8) : AFn Tryz.prog G 81 [.str s] (.bool (mayNameM s)) := by
  refine AFn.intro tok Tryz.func81 (by kernel_rfl) rfl ?_
  simp only [Tryz.f81, St.start]
  have hT := Trim_ev (G := G) s nameSet (by decide) (by decide)
  refine AW.seqRun tok [] (by intro C; conv => lhs; simp) trivial ?_ -- r0 {}
  refine AW.seqRun tok [.tup [.str s, .str nameSet], .str (trimM s nameSet)] (by intro C; conv => lhs; simp) (by simpa [nameSet] using hT) ?_ -- r1 {t5:CALL call f44}
  have e1 : decide (trimM s nameSet = []) = s.all fun b => asF nameSet b.toNat := by
    rw [Bool.eq_iff_iff]; simp [trimM_nil]
  rcases s with _ | ⟨b, s⟩
  · refine AW.seqRun tok [.int .u8 0, .tup [.str letters, .int .u8 0], .int .i64 0] (by intro C; conv => lhs; simp) (by simp) ?_ -- r2
    exact AW.ret ⟨.inr rfl, _, _, by (conv => lhs; simp), trivial, by simp [mayNameM]⟩
  · refine AW.seqRun tok [.int .u8 b.toNat, .tup [.str letters, .int .u8 b.toNat], .int .i64 (Lib.indexByte letters b)] (by intro C; conv => lhs; simp) (by
      have := IndexByte_ev (G := G) letters b.toNat
      simp [letters] at this ⊢
      exact fun h1 h2 => ⟨⟨h1, h2⟩, this⟩) ?_ -- r2
    exact AW.ret ⟨.inr rfl, _, _, by (conv => lhs; simp), trivial, by simp [mayNameM, ← e1, indexByte_mem, Bool.and_assoc]; congr 2; exact decide_eq_decide.2 (by omega)⟩
end Go.Proofs.YtdjjmppnnkkloaaGreatDoor
/-
  PLAIN: masks (64 bits) as numbers.
-/
namespace Go.Proofs.YtdjjmppnnkkloaaGreatDoor
open Sy Go
set_option linter.unusedSimpArgs false
set_option linter.unusedVariables false
def InM (a : Int) : Prop := 0 ≤ a ∧ a < 18446744073709551616
def natM (a : Int) : Nat := (a % 18446744073709551616).toNat
theorem natM_lt (a : Int) : natM a < 2 ^ 64 := by unfold natM; omega
theorem natM_of {a : Int} (h : InM a) : ((natM a : Nat) : Int) = a := by unfold natM; unfold InM at h; omega
theorem natM_cast {n : Nat} (h : n < 2 ^ 64) : natM n = n := by unfold natM; omega
theorem inM_cast {n : Nat} (h : n < 2 ^ 64) : InM n := by unfold InM; omega
def orM (a b : Int) : Int := ((natM a ||| natM b : Nat) : Int)
def andM (a b : Int) : Int := ((natM a &&& natM b : Nat) : Int)
def subM (a b : Int) : Int := ((natM a &&& (18446744073709551615 - natM b) : Nat) : Int)
theorem or_lt (a b : Int) : natM a ||| natM b < 2 ^ 64 := Nat.or_lt_two_pow (natM_lt a) (natM_lt b)
theorem and_lt (a b : Int) : natM a &&& natM b < 2 ^ 64 := Nat.and_lt_two_pow _ (natM_lt b)
theorem sub_lt (a b : Int) : natM a &&& (18446744073709551615 - natM b) < 2 ^ 64 := Nat.and_lt_two_pow _ (by omega)
theorem or_in (a b : Int) : InM (orM a b) := inM_cast (or_lt a b)
theorem natM_or (a b : Int) : natM (orM a b) = natM a ||| natM b := natM_cast (or_lt a b)
theorem natM_and (a b : Int) : natM (andM a b) = natM a &&& natM b := natM_cast (and_lt a b)
theorem natM_sub (a b : Int) : natM (subM a b) = natM a &&& (18446744073709551615 - natM b) := natM_cast (sub_lt a b)
theorem wrap_nat {n : Nat} (h : n < 2 ^ 64) : IntKind.u64.wrap (n : Int) = n := by simp [IntKind.wrap, IntKind.bits, IntKind.signed]; omega
theorem or_wrap (a b : Int) : IntKind.u64.wrap (((a % 2 ^ IntKind.u64.bits).toNat ||| (b % 2 ^ IntKind.u64.bits).toNat : Nat) : Int) = orM a b := wrap_nat (or_lt a b)
theorem and_wrap (a b : Int) : IntKind.u64.wrap (((a % 2 ^ IntKind.u64.bits).toNat &&& (b % 2 ^ IntKind.u64.bits).toNat : Nat) : Int) = andM a b := wrap_nat (and_lt a b)
theorem sub_wrap (a b : Int) : IntKind.u64.wrap (((a % 2 ^ IntKind.u64.bits).toNat &&& (2 ^ IntKind.u64.bits - 1 - (b % 2 ^ IntKind.u64.bits).toNat) : Nat) : Int) = subM a b := wrap_nat (sub_lt a b)
theorem or_comm (a b : Int) : orM a b = orM b a := by unfold orM; rw [Nat.or_comm]
theorem or_assoc (a b c : Int) : orM (orM a b) c = orM a (orM b c) := by
  show ((natM (orM a b) ||| natM c : Nat) : Int) = ((natM a ||| natM (orM b c) : Nat) : Int)
  rw [natM_or, natM_or, Nat.or_assoc]
theorem or_self {a : Int} (h : InM a) : orM a a = a := by unfold orM; rw [Nat.or_self, natM_of h]
theorem or_zero {a : Int} (h : InM a) : orM a 0 = a := by unfold orM; rw [show natM 0 = 0 from rfl, Nat.or_zero, natM_of h]
theorem zero_or {a : Int} (h : InM a) : orM 0 a = a := by rw [or_comm, or_zero h]
theorem or_or_self (a b : Int) : orM (orM a b) b = orM a b := by
  rw [or_assoc]; unfold orM; rw [natM_cast (or_lt b b), Nat.or_self]
theorem or_eq_zero {a b : Int} (ha : InM a) (h : orM a b = 0) : a = 0 := by
  unfold orM at h
  have h1 : natM a ||| natM b = 0 := by omega
  have h2 : natM a ≤ natM a ||| natM b := Nat.left_le_or
  have := natM_of ha
  omega
/-- The bits of one are in the other. -/
def LeM (a b : Int) : Prop := orM a b = b
theorem LeM.or_left (a b : Int) : LeM a (orM a b) := by
  unfold LeM; rw [← or_assoc]
  unfold orM; rw [natM_cast (or_lt a a), Nat.or_self]
theorem LeM.or_right (a b : Int) : LeM b (orM a b) := by rw [or_comm]; exact .or_left b a
theorem LeM.trans {a b c : Int} (h1 : LeM a b) (h2 : LeM b c) : LeM a c := by
  unfold LeM at *; rw [← h2, ← or_assoc, h1]
theorem LeM.or {a b c : Int} (h1 : LeM a c) (h2 : LeM b c) : LeM (orM a b) c := by
  unfold LeM at *; rw [or_assoc, h2, h1]
theorem LeM.refl {a : Int} (h : InM a) : LeM a a := or_self h
theorem LeM.and {a b : Int} (h : LeM a b) (ha : InM a) : andM b a = a := by
  unfold LeM at h
  have h1 : natM a ||| natM b = natM b := by rw [← natM_or, h]
  unfold andM
  have : natM b &&& natM a = natM a := by
    rw [← h1]
    apply Nat.eq_of_testBit_eq; intro i
    simp only [Nat.testBit_and, Nat.testBit_or]
    cases (natM a).testBit i <;> cases (natM b).testBit i <;> rfl
  rw [this, natM_of ha]
theorem LeM.and' {a b : Int} (h : LeM a b) (ha : InM a) : andM a b = a := by
  have := h.and ha
  unfold andM at *; rw [Nat.and_comm]; exact this
theorem LeM.sub {a b : Int} (h : LeM a b) : subM a b = 0 := by
  unfold LeM at h
  have h1 : natM a ||| natM b = natM b := by rw [← natM_or, h]
  have hb := natM_lt b
  unfold subM
  have : natM a &&& (18446744073709551615 - natM b) = 0 := by
    apply Nat.eq_of_testBit_eq; intro i
    rw [show 18446744073709551615 - natM b = 2 ^ 64 - (natM b + 1) by omega]
    simp only [Nat.testBit_and, Nat.testBit_two_pow_sub_succ hb, Nat.zero_testBit]
    have h3 : (natM a ||| natM b).testBit i = (natM b).testBit i := by rw [h1]
    rw [Nat.testBit_or] at h3
    revert h3
    cases (natM a).testBit i <;> cases (natM b).testBit i <;> simp
  rw [this]; rfl
end Go.Proofs.YtdjjmppnnkkloaaGreatDoor
/-
  PLAIN: a text cut at a byte, wherever that stands.
-/
namespace Go.Proofs.YtdjjmppnnkkloaaGreatDoor
open Sy Go
set_option linter.unusedSimpArgs false
set_option linter.unusedVariables false
/-- The parts of a text between the bytes 'c'. -/
def splitB (c : UInt8) : List UInt8 → List (List UInt8)
  | [] => [[]]
  | b :: r => if b = c then [] :: splitB c r else match splitB c r with
    | [] => [[b]]
    | h :: t => (b :: h) :: t
theorem splitB_ne (c : UInt8) : ∀ s, splitB c s ≠ []
  | [] => by simp [splitB]
  | b :: r => by
    simp only [splitB]
    split
    · simp
    · split <;> simp
theorem splitB_len (c : UInt8) : ∀ s, (splitB c s).length = s.count c + 1
  | [] => by simp [splitB]
  | b :: r => by
    have ih := splitB_len c r
    simp only [splitB]
    split
    · rename_i h; subst h; simp [ih]
    · rename_i h
      rw [List.count_cons_of_ne h, ← ih]
      split
      · rename_i h2; exact absurd h2 (splitB_ne c r)
      · rename_i h2; rw [h2]; simp
theorem splitB_no {c : UInt8} : ∀ {s}, c ∉ s → splitB c s = [s]
  | [], _ => rfl
  | b :: r, h => by
    simp only [List.mem_cons, not_or] at h
    simp only [splitB, splitB_no h.2]
    rw [if_neg (fun e => h.1 e.symm)]
theorem splitB_at {c : UInt8} : ∀ {a r : List UInt8}, c ∉ a → splitB c (a ++ c :: r) = a :: splitB c r
  | [], r, _ => by simp [splitB]
  | b :: a, r, h => by
    simp only [List.mem_cons, not_or] at h
    simp only [List.cons_append, splitB]
    rw [if_neg (fun e => h.1 e.symm), splitB_at h.2]
theorem indexB_at {c : UInt8} : ∀ {a r : List UInt8}, c ∉ a → Lib.indexByte (a ++ c :: r) c = a.length
  | [], r, _ => by simp [Lib.indexByte]
  | b :: a, r, h => by
    simp only [List.mem_cons, not_or] at h
    have ih := indexB_at (r := r) h.2
    simp only [List.cons_append, Lib.indexByte]
    rw [if_neg (by intro e; exact h.1 (eq_of_beq e).symm), ih, List.length_cons, if_neg (by intro e; have := eq_of_beq e; omega)]
    omega
theorem indexB_no {c : UInt8} : ∀ {s : List UInt8}, c ∉ s → Lib.indexByte s c = -1
  | [], _ => rfl
  | b :: a, h => by
    simp only [List.mem_cons, not_or] at h
    simp only [Lib.indexByte]
    rw [if_neg (by intro e; exact h.1 (eq_of_beq e).symm), indexB_no h.2]
    rfl
theorem mem_split {c : UInt8} {s : List UInt8} (h : c ∈ s) : ∃ a r, s = a ++ c :: r ∧ c ∉ a := by
  induction s with
  | nil => cases h
  | cons b s ih =>
    by_cases e : b = c
    · subst e; exact ⟨[], s, rfl, by simp⟩
    · obtain ⟨a, r, rfl, hn⟩ := ih (by rcases List.mem_cons.1 h with h | h; exact absurd h.symm e; exact h)
      exact ⟨b :: a, r, rfl, by simp only [List.mem_cons, not_or]; exact ⟨fun h => e h.symm, hn⟩⟩
theorem count_at {c : UInt8} {a r : List UInt8} (h : c ∉ a) : (a ++ c :: r).count c = r.count c + 1 := by
  rw [List.count_append, List.count_cons_self, List.count_eq_zero.2 h]; omega
/-- A text cut once. -/
def cutB (c : UInt8) (s : List UInt8) : List UInt8 × List UInt8 × Bool := if c ∈ s then (s.takeWhile (· ≠ c), (s.dropWhile (· ≠ c)).drop 1, true) else (s, [], false)
theorem cutB_at {c : UInt8} {a r : List UInt8} (h : c ∉ a) : cutB c (a ++ c :: r) = (a, r, true) := by
  unfold cutB
  rw [if_pos (by simp)]
  have h1 : ∀ a : List UInt8, c ∉ a → (a ++ c :: r).takeWhile (· ≠ c) = a ∧ (a ++ c :: r).dropWhile (· ≠ c) = c :: r := by
    intro a
    induction a with
    | nil => intro _; simp
    | cons b a ih =>
      intro h
      simp only [List.mem_cons, not_or] at h
      obtain ⟨i1, i2⟩ := ih h.2
      have hb : b ≠ c := fun e => h.1 e.symm
      simp only [List.cons_append, List.takeWhile_cons, List.dropWhile_cons, hb, ne_eq, not_false_eq_true, decide_true, if_true]
      exact ⟨by rw [i1], i2⟩
  obtain ⟨i1, i2⟩ := h1 a h
  rw [i1, i2]; rfl
theorem cutB_no {c : UInt8} {s : List UInt8} (h : c ∉ s) : cutB c s = (s, [], false) := by
  unfold cutB; rw [if_neg h]
/-- A text without the byte that it may end with. -/
def cutEnd (c : UInt8) (s : List UInt8) : List UInt8 := if s.getLast? = some c then s.dropLast else s
end Go.Proofs.YtdjjmppnnkkloaaGreatDoor
/-
  PLAIN: categories, their places, and their masks.
-/
namespace Go.Proofs.YtdjjmppnnkkloaaGreatDoor
open Sy Go
set_option linter.unusedSimpArgs false
set_option linter.unusedVariables false
/-- The map of the first 'k' categories. -/
def plK (cats : List (List UInt8)) : Nat → List (List UInt8)
  | 0 => []
  | k + 1 => mapK (plK cats k) (cats.getD k [])
def plV (cats : List (List UInt8)) : Nat → List V
  | 0 => []
  | k + 1 => mapV (plK cats k) (plV cats k) (cats.getD k []) (.p (.int .i64 k))
theorem take_getD {cats : List (List UInt8)} {k : Nat} (h : k < cats.length) : cats.take (k + 1) = cats.take k ++ [cats.getD k []] := by
  rw [List.take_add_one]; simp [List.getD_eq_getElem?_getD, h]
theorem plK_mem (cats : List (List UInt8)) (s : List UInt8) : ∀ k, k ≤ cats.length → (s ∈ plK cats k ↔ s ∈ cats.take k)
  | 0, _ => by simp [plK]
  | k + 1, h => by
    have ih := plK_mem cats s k (by omega)
    rw [take_getD (by omega)]
    simp only [plK, mapK]
    split
    · rename_i hm
      rw [ih, List.mem_append, List.mem_singleton]
      constructor
      · exact .inl
      · rintro (h | rfl)
        · exact h
        · exact ih.1 hm
    · simp only [List.mem_append, ih]
theorem plK_nodup (cats : List (List UInt8)) : ∀ k, (plK cats k).Nodup
  | 0 => by simp [plK]
  | k + 1 => by
    simp only [plK, mapK]
    split
    · exact plK_nodup cats k
    · rename_i hm
      rw [List.nodup_append]
      refine ⟨plK_nodup cats k, by simp, fun a ha b hb => ?_⟩
      rw [List.mem_singleton] at hb; subst hb
      rintro rfl; exact hm ha
theorem plK_le (cats : List (List UInt8)) : ∀ k, (plK cats k).length ≤ k
  | 0 => by simp [plK]
  | k + 1 => by
    have := plK_le cats k
    simp only [plK, mapK]
    split
    · omega
    · simp; omega
/-- Categories that stand there once each. -/
theorem plK_of (cats : List (List UInt8)) (hn : cats.Nodup) : ∀ k, k ≤ cats.length → plK cats k = cats.take k ∧ plV cats k = (List.range k).map fun i : Nat => V.p (.int .i64 i)
  | 0, _ => by simp [plK, plV]
  | k + 1, h => by
    obtain ⟨i1, i2⟩ := plK_of cats hn k (by omega)
    have hnm : cats.getD k [] ∉ cats.take k := by
      have := List.Nodup.sublist (List.take_sublist (k + 1) cats) hn
      rw [take_getD (by omega), List.nodup_append] at this
      intro hm
      exact this.2.2 _ hm _ (by simp) rfl
    simp only [plK, plV, mapK, mapV, i1, i2]
    rw [if_neg hnm, if_neg hnm, take_getD (by omega), List.range_succ]
    exact ⟨rfl, by simp⟩
theorem plK_len (cats : List (List UInt8)) : (plK cats cats.length).length = cats.length ↔ cats.Nodup := by
  constructor
  · intro h
    have key : ∀ k, k ≤ cats.length → (plK cats k).length = k → (cats.take k).Nodup := by
      intro k
      induction k with
      | zero => intro _ _; simp
      | succ k ih =>
        intro hk hl
        have hle := plK_le cats k
        simp only [plK, mapK] at hl
        split at hl
        · omega
        · rename_i hm
          simp only [List.length_append, List.length_singleton] at hl
          rw [take_getD (by omega), List.nodup_append]
          refine ⟨ih (by omega) (by omega), by simp, fun a ha b hb => ?_⟩
          rw [List.mem_singleton] at hb; subst hb
          rintro rfl
          exact hm ((plK_mem cats _ k (by omega)).2 ha)
    have := key _ (Nat.le_refl _) h
    rwa [List.take_length] at this
  · intro h
    rw [(plK_of cats h _ (Nat.le_refl _)).1, List.take_length]
def catsMayM (cats : List (List UInt8)) : Int := if 64 < cats.length then 3 else if decide cats.Nodup && cats.all mayNameM then 0 else 20
/-! ### Masks of names -/
/-- The mask of a place. -/
def bitM (i : Nat) : Int := ((2 ^ i % 2 ^ 64 : Nat) : Int)
/-- The mask of words: none, if one is no category. -/
def maskG (cats : List (List UInt8)) : List (List UInt8) → Int → Option Int
  | [], m => some m
  | w :: ws, m => if w ∈ cats then maskG cats ws (orM m (bitM (cats.idxOf w))) else if w = [] then maskG cats ws m else none
def maskT (cats : List (List UInt8)) (s : List UInt8) : Int × Int := match maskG cats (splitB 32 s) 0 with
  | none => (0, 20)
  | some m => (m, 0)
/-- Whether a mask has a place's. -/
def hasM (m : Int) (i : Nat) : Bool := (natM m).testBit i
/-- The categories of a mask, from place 'i' on. -/
def pickC : List (List UInt8) → Nat → Int → List (List UInt8)
  | [], _, _ => []
  | c :: cs, i, m => (if hasM m i = true then [c] else []) ++ pickC cs (i + 1) m
def namesT (cats : List (List UInt8)) (m : Int) : List UInt8 := Lib.join (pickC cats 0 m) [32]
end Go.Proofs.YtdjjmppnnkkloaaGreatDoor
namespace Go.Proofs.YtdjjmppnnkkloaaGreatDoor
open Sy Go
set_option maxRecDepth 100000
set_option maxHeartbeats 4000000
set_option linter.unusedSimpArgs false
set_option linter.unusedVariables false
variable {G : Glob}
theorem getD_get {s : List UInt8} {k : Nat} (h : k < s.length) : s[k]? = some (s.getD k 0) := by simp [List.getD_eq_getElem?_getD, h]
theorem trimLeftByte_ev (s : List UInt8) (c : UInt8) : AFn Tryz.prog G 131 [.str s, .int .u8 c.toNat] (.str (s.dropWhile (fun b => b == c))) := by
  refine AFn.introU tok Tryz.func131 (by kernel_rfl) rfl rfl ?_
  simp only [Tryz.f131, enumA, List.map_cons, List.map_nil]
  refine rgn [] [[0, 1]] ?_
  refine op1 tok ?_
  refine runEnd ?_
  refine AW.seq ?_
  refine AW.block ?_
  refine AW.loop (α := List UInt8) (fun r => r.dropWhile (fun b => b == c) = s.dropWhile (fun b => b == c)) (fun r => ⟨upds 17 [(0, .p (.str r)), (1, .p (.int .u8 c.toNat))], [], [], 0⟩) (fun r => r.length) (s) rfl ⟨upds_le (by simp), rfl, by simp, by simp⟩ ?_
  rintro r hr
  have hix : 0 < r.length → r[0]? = some (r.getD 0 0) := fun h => getD_get h
  refine AW.seq ?_
  refine rgn [.int .u8 (r.getD 0 0).toNat] [[], [], [], [], [], [0, 1, 8, 10], [], [], [0, 1, 13]] ?_
  iterate 4 refine op1 tok ?_ (hv := by first | with_reducible exact True.intro | (first | exact fun h => ⟨h, _, hix (by omega), rfl⟩ | simp; done) | omega | simp | (simp; omega) | (simp +contextual; omega))
  iterate 4 refine op2 tok ?_ (hv := by first | with_reducible exact True.intro | (first | exact fun h => ⟨h, _, hix (by omega), rfl⟩ | simp; done) | omega | simp | (simp; omega) | (simp +contextual; omega))
  refine op1 tok ?_ (hv := by first | with_reducible exact True.intro | (first | exact fun h => ⟨h, _, hix (by omega), rfl⟩ | simp; done) | omega | simp | (simp; omega) | (simp +contextual; omega))
  refine runEnd ?_
  refine cnd ?_ ?_
  · intro h13
    try simp at h13
    obtain ⟨b, r, rfl⟩ : ∃ b r', r = b :: r' := by
      cases r with
      | nil => simp at h13
      | cons b r => exact ⟨b, r, rfl⟩
    have hb : b = c := UInt8.toNat_inj.1 (by have := h13.2; simp at this; omega)
    subst hb
    have hr2 : List.dropWhile (fun b' => b' == b) r = List.dropWhile (fun b' => b' == b) s := by rw [← hr]; simp
    refine AW.skip ?_
    refine AW.block ?_
    refine rgz [] [[], [], [0, 1]] ?_
    iterate 3 refine op1 tok ?_
    refine runEnd ?_
    exact ⟨r, hr2, by simp, upds_le (by simp), rfl, by simp, by simp⟩
  · intro h13
    try simp at h13
    have hr3 : s.dropWhile (fun b => b == c) = r := by
      rw [← hr]
      cases r with
      | nil => rfl
      | cons b r =>
        have hb : b ≠ c := by rintro rfl; simp at h13
        simp [hb]
    rw [hr3]
    refine AW.exit ?_
    simp
    refine rgn [] [[], [4]] ?_
    iterate 2 refine op1 tok ?_
    refine runEnd ?_
    exact AW.ret ⟨.inr rfl, _, _, by (conv => lhs; simp), trivial, by simp⟩
theorem suffix_last (s : List UInt8) (c : UInt8) : (decide (1 ≤ (s.length : Int)) && decide (List.drop (s.length - 1) s = [c])) = decide (s.getLast? = some c) := by
  by_cases h : s = []
  · subst h; simp
  · obtain ⟨a, b, rfl⟩ : ∃ a b, s = a ++ [b] := ⟨s.dropLast, s.getLast h, (List.dropLast_concat_getLast h).symm⟩
    rw [Bool.eq_iff_iff]
    simp
    intro _; omega
theorem sHasSuffix_ev (s : List UInt8) (c : UInt8) : AFn Tryz.prog G 100 [.str s, .str [c]] (.bool (decide (s.getLast? = some c))) := by
  refine AFn.introU tok Tryz.func100 (by kernel_rfl) rfl rfl ?_
  simp only [Tryz.f100, enumA, List.map_cons, List.map_nil]
  refine AW.strFactU (i := 0) rfl (by decide) ?_
  intro hlen
  have hsuf : (decide (1 ≤ (s.length : Int)) && decide (List.drop (s.length - 1) s = [c])) = decide (s.getLast? = some c) := suffix_last s c
  refine rgn [] [[0, 1]] ?_
  refine op1 tok ?_
  refine runEnd ?_
  refine rgn [] [[], [], [], [], [0, 1, 9], [], [], [], [], [], [1, 10, 11, 13, 15], [], [1, 10, 17], [], [], [20], [4]] ?_
  iterate 6 refine op1 tok ?_
  iterate 9 refine op2 tok ?_
  iterate 2 refine op1 tok ?_
  refine runEnd ?_
  exact AW.ret ⟨.inr rfl, _, _, by (conv => lhs; simp), trivial, by simp [hsuf]⟩
-- no HasSuffix_ev
-- no TrimLeft1_ev
-- no TrimLeft_ev
end Go.Proofs.YtdjjmppnnkkloaaGreatDoor
namespace Go.Proofs.YtdjjmppnnkkloaaGreatDoor
open Sy Go
set_option maxRecDepth 100000
set_option maxHeartbeats 4000000
set_option linter.unusedSimpArgs false
set_option linter.unusedVariables false
variable {G : Glob}
theorem extCount : IsExt Tryz.prog 123 Extern.BytealgCount.count := fun args w => run_callFunc_extern Tryz.func123 (by kernel_rfl) (by kernel_rfl) (by kernel_rfl) (by kernel_rfl) args w
theorem Count_ev (s : List UInt8) (c : UInt8) : AFn Tryz.prog G 98 [.str s, .str [c]] (.int .i64 (s.count c : Nat)) := by
  refine AFn.introU tok Tryz.func98 (by kernel_rfl) rfl rfl ?_
  simp only [Tryz.f98, enumA, List.map_cons, List.map_nil]
  refine rgn [] [[0, 1]] ?_
  refine op1 tok ?_
  refine runEnd ?_
  refine AW.seq ?_
  refine rgn [] [[], [], [0, 1, 9]] ?_
  iterate 3 refine op1 tok ?_
  refine runEnd ?_
  refine cnd ?_ ?_
  · intro h9
    try simp at h9
  · intro h9
    try simp at h9
    refine AW.skip ?_
    refine AW.seq ?_
    refine rgn [] [[], [], [0, 1, 15]] ?_
    iterate 3 refine op1 tok ?_
    refine runEnd ?_
    refine cnd ?_ ?_
    · intro h15
      try simp at h15
      refine rgn [.int .u8 c.toNat] [[], [], []] ?_
      iterate 3 refine op1 tok ?_
      refine runOff ?_
      refine AOpsO.stepK [19] (y_countString (s := s) (n := c.toNat) (p := True) (q := True) (r := True) extCount rfl (by simp) trivial (by simp) trivial (by simp) trivial) (by conv => lhs; simp) rfl ?_
      refine AOpsO.run [[4]] ?_
      refine op1 tok ?_
      refine runEnd ?_
      exact AW.ret ⟨.inr rfl, _, _, by (conv => lhs; simp), trivial, by simp⟩
    · intro h15
      try simp at h15
theorem sIndex_ev (s : List UInt8) (c : UInt8) : AFn Tryz.prog G 124 [.str s, .str [c]] (.int .i64 (Lib.indexByte s c)) := by
  refine AFn.introU tok Tryz.func124 (by kernel_rfl) rfl rfl ?_
  simp only [Tryz.f124, enumA, List.map_cons, List.map_nil]
  refine rgn [] [[0, 1]] ?_
  refine op1 tok ?_
  refine runEnd ?_
  refine rgn [] [[], [], [0, 1, 5]] ?_
  iterate 3 refine op1 tok ?_
  refine runEnd ?_
  refine AW.seq ?_
  refine AW.block ?_
  refine rgn [] [[], [], [], [], [], [0, 1, 5, 19, 22], [], [0, 1, 5, 16]] ?_
  iterate 3 refine op1 tok ?_
  iterate 3 refine op2 tok ?_
  iterate 2 refine op1 tok ?_
  refine runEnd ?_
  refine cnd ?_ ?_
  · intro h16
    try simp at h16
    subst h16
    refine rgn [] [[]] ?_
    refine op1 tok ?_
    refine runEnd ?_
    exact AW.ret ⟨.inr rfl, _, _, by (conv => lhs; simp), trivial, by simp [Lib.indexByte]⟩
  · intro h16
    try simp at h16
    refine rgn [] [[], [], [0, 1, 5, 24]] ?_
    iterate 3 refine op1 tok ?_
    refine runEnd ?_
    refine cnd ?_ ?_
    · intro h24
      try simp at h24
      refine rgn [.int .u8 c.toNat, .nilp, .int .i64 (Lib.indexByte s c)] [[], [], [], [30], [4]] ?_
      iterate 5 refine op1 tok ?_ (hv := by first | with_reducible exact True.intro | (first | (have := sIndexByte_ev (G := G) s c.toNat; simpa using this) | simp; done) | omega | simp | (simp; omega) | (simp +contextual; omega))
      refine runEnd ?_
      exact AW.ret ⟨.inr rfl, _, _, by (conv => lhs; simp), trivial, by simp⟩
    · intro h24
      try simp at h24
theorem Index_ev (s : List UInt8) (c : UInt8) : AFn Tryz.prog G 99 [.str s, .str [c]] (.int .i64 (Lib.indexByte s c)) := by
  refine AFn.introU tok Tryz.func99 (by kernel_rfl) rfl rfl ?_
  simp only [Tryz.f99, enumA, List.map_cons, List.map_nil]
  refine rgn [] [[0, 1]] ?_
  refine op1 tok ?_
  refine runEnd ?_
  refine rgn [.nilp, .int .i64 (Lib.indexByte s c)] [[], [], [7], [4]] ?_
  iterate 4 refine op1 tok ?_ (hv := by first | with_reducible exact True.intro | (exact sIndex_ev s c; done) | omega | simp | (simp; omega) | (simp +contextual; omega))
  refine runEnd ?_
  exact AW.ret ⟨.inr rfl, _, _, by (conv => lhs; simp), trivial, by simp⟩
theorem sCut_ev (s : List UInt8) (c : UInt8) : AFn Tryz.prog G 101 [.str s, .str [c]] (.tup [.str (cutB c s).1, .str (cutB c s).2.1, .bool (cutB c s).2.2]) := by
  refine AFn.introU tok Tryz.func101 (by kernel_rfl) rfl rfl ?_
  simp only [Tryz.f101, enumA, List.map_cons, List.map_nil]
  refine AW.strFactU (i := 0) rfl (by decide) ?_
  intro hlen
  have hI := sIndex_ev (G := G) s c
  refine rgn [] [[], [], [0, 1]] ?_
  iterate 3 refine op1 tok ?_
  refine runEnd ?_
  refine AW.seq ?_
  refine rgn [.nilp, .int .i64 (Lib.indexByte s c)] [[], [], [], [0, 1, 7]] ?_
  iterate 4 refine op1 tok ?_ (hv := by first | with_reducible exact True.intro | (exact hI; done) | omega | simp | (simp; omega) | (simp +contextual; omega))
  refine runEnd ?_
  refine rgn [] [[], [0, 1, 7, 12]] ?_
  iterate 2 refine op1 tok ?_
  refine runEnd ?_
  refine cnd ?_ ?_
  · intro h12
    try simp at h12
    have hm : c ∈ s := (indexByte_mem s c).1 h12
    obtain ⟨a, r, rfl, hn⟩ := mem_split hm
    rw [cutB_at hn]
    rw [indexB_at hn]
    simp only [List.length_append, List.length_cons] at hlen
    have hd : List.drop (a.length + 1) (List.take ((a.length : Int) + ((r.length : Int) + 1)).toNat (a ++ c :: r)) = r := by
      rw [List.take_of_length_le (by simp; omega)]; simp
    refine AW.seqRunDrawK tok mixed [4, 5, 6] 10 [[0], [7], [13, 14], [0], [7], [1], [18], [17, 19], [16, 20], [15]] [] [] (by kernel_rfl) (by intro C; conv => lhs; simp) (by first | with_reducible exact True.intro | omega | simp | (simp; omega) | (simp +contextual; omega)) (by simp [Sm.sum, Sm.foot, Sm.tch, Sm.refs]; kernel_rfl) (by intro C; conv => lhs; simp) (by first | with_reducible exact True.intro | omega | simp | (simp; omega) | (simp +contextual; omega)) ?_
    exact AW.ret ⟨.inr rfl, _, _, by (conv => lhs; simp), trivial, by simp [hd]⟩
  · intro h12
    try simp at h12
    have hm : c ∉ s := fun h => absurd ((indexByte_mem s c).2 h) (by omega)
    rw [cutB_no hm]
    refine AW.skip ?_
    refine rgn [] [[], [], [], [4, 5, 6]] ?_
    iterate 4 refine op1 tok ?_
    refine runEnd ?_
    exact AW.ret ⟨.inr rfl, _, _, by (conv => lhs; simp), trivial, by simp⟩
theorem Cut_ev (s : List UInt8) (c : UInt8) : AFn Tryz.prog G 68 [.str s, .str [c]] (.tup [.str (cutB c s).1, .str (cutB c s).2.1, .bool (cutB c s).2.2]) := by
  refine AFn.introU tok Tryz.func68 (by kernel_rfl) rfl rfl ?_
  simp only [Tryz.f68, enumA, List.map_cons, List.map_nil]
  refine rgn [] [[], [], [0, 1]] ?_
  iterate 3 refine op1 tok ?_
  refine runEnd ?_
  refine rgn [.nilp, .tup [.str (cutB c s).1, .str (cutB c s).2.1, .bool (cutB c s).2.2]] [[], [], [9], [], [], [], [], [], [4, 5, 6]] ?_
  iterate 9 refine op1 tok ?_ (hv := by first | with_reducible exact True.intro | (exact sCut_ev s c; done) | omega | simp | (simp; omega) | (simp +contextual; omega))
  refine runEnd ?_
  exact AW.ret ⟨.inr rfl, _, _, by (conv => lhs; simp), trivial, by simp⟩
theorem sTrimSuffix_ev (s : List UInt8) (c : UInt8) : AFn Tryz.prog G 67 [.str s, .str [c]] (.str (cutEnd c s)) := by
  refine AFn.introU tok Tryz.func67 (by kernel_rfl) rfl rfl ?_
  simp only [Tryz.f67, enumA, List.map_cons, List.map_nil]
  refine AW.strFactU (i := 0) rfl (by decide) ?_
  intro hlen
  have hS := sHasSuffix_ev (G := G) s c
  unfold cutEnd
  refine rgn [] [[0, 1]] ?_
  refine op1 tok ?_
  refine runEnd ?_
  refine AW.seq ?_
  refine rgn [.nilp, .bool (decide (s.getLast? = some c))] [[], [], [0, 1, 7]] ?_
  iterate 3 refine op1 tok ?_ (hv := by first | with_reducible exact True.intro | (exact hS; done) | omega | simp | (simp; omega) | (simp +contextual; omega))
  refine runEnd ?_
  refine cnd ?_ ?_
  · intro h7
    try simp at h7
    rw [if_pos h7]
    have hne : 1 ≤ s.length := by cases s with
      | nil => simp at h7
      | cons b s => simp
    refine rgn [] [[], [], [], [], [8, 10, 12], [], [14], [4]] ?_
    iterate 8 refine op1 tok ?_
    refine runEnd ?_
    exact AW.ret ⟨.inr rfl, _, _, by (conv => lhs; simp), trivial, by simp [List.dropLast_eq_take]⟩
  · intro h7
    try simp at h7
    rw [if_neg h7]
    refine AW.skip ?_
    refine rgn [] [[], [4]] ?_
    iterate 2 refine op1 tok ?_
    refine runEnd ?_
    exact AW.ret ⟨.inr rfl, _, _, by (conv => lhs; simp), trivial, by simp⟩
theorem TrimSuffix_ev (s : List UInt8) (c : UInt8) : AFn Tryz.prog G 29 [.str s, .str [c]] (.str (cutEnd c s)) := by
  refine AFn.introU tok Tryz.func29 (by kernel_rfl) rfl rfl ?_
  simp only [Tryz.f29, enumA, List.map_cons, List.map_nil]
  refine rgn [] [[0, 1]] ?_
  refine op1 tok ?_
  refine runEnd ?_
  refine rgn [.nilp, .str (cutEnd c s)] [[], [], [7], [4]] ?_
  iterate 4 refine op1 tok ?_ (hv := by first | with_reducible exact True.intro | (exact sTrimSuffix_ev s c; done) | omega | simp | (simp; omega) | (simp +contextual; omega))
  refine runEnd ?_
  exact AW.ret ⟨.inr rfl, _, _, by (conv => lhs; simp), trivial, by simp⟩
theorem set_mid {α β : Type} (f : α → β) (l : List α) (x y : β) (r : List β) : (l.map f ++ x :: r).set l.length y = l.map f ++ y :: r := by
  rw [List.set_append_right _ _ (by simp)]; simp
theorem get_mid {α β : Type} (f : α → β) (l : List α) (x : β) (r : List β) : (l.map f ++ x :: r)[l.length]? = some x := by
  rw [List.getElem?_append_right (by simp)]; simp
theorem genSplit_ax (s : List UInt8) (c : UInt8) (hs : s.length ≤ 1000000000) : AX Tryz.prog G 66 [.p (.str s), .p (.str [c]), .p (.int .i64 0), .p (.int .i64 (-1))] [] (.ms 91) [] [(91, .row 9 1 ((splitB c s).map PD.str))] := by
  refine AX.introU tok 60 Tryz.func66 (by kernel_rfl) rfl rfl ?_
  simp only [Tryz.f66, enumA, List.map_cons, List.map_nil]
  have hC := Count_ev (G := G) s c
  have hcl : s.count c ≤ s.length := List.count_le_length
  have hsl := splitB_len c s
  generalize hN : s.count c = N at *
  have hlt : ¬ s.length < N := by omega
  refine rgn [] [[0, 1, 2, 3]] ?_
  refine op1 tok ?_
  refine runEnd ?_
  refine AW.seq ?_
  refine rgn [] [[], [0, 1, 2, 3, 13]] ?_
  iterate 2 refine op1 tok ?_
  refine runEnd ?_
  refine cnd ?_ ?_
  · intro h13
    try simp at h13
  · intro h13
    try simp at h13
    refine AW.skip ?_
    refine AW.seq ?_
    refine rgn [] [[], [0, 1, 2, 3, 15]] ?_
    iterate 2 refine op1 tok ?_
    refine runEnd ?_
    refine cnd ?_ ?_
    · intro h15
      try simp at h15
    · intro h15
      try simp at h15
      refine AW.skip ?_
      refine AW.seq ?_
      refine rgn [] [[], [0, 1, 2, 3, 20]] ?_
      iterate 2 refine op1 tok ?_
      refine runEnd ?_
      refine cnd ?_ ?_
      · intro h20
        try simp at h20
        refine rgz [.nilp, .int .i64 N] [[], [], [], [], [0, 1, 2, 3]] ?_
        iterate 5 refine op1 tok ?_ (hv := by first | with_reducible exact True.intro | (first | exact hC | omega; done) | omega | simp | (simp; omega) | (simp +contextual; omega))
        refine runEnd ?_
        refine rgn [] [[], [], [], [], [0, 1, 2, 29], [0, 1, 2, 3]] ?_
        iterate 6 refine op1 tok ?_
        refine runEnd ?_
        refine rgn [.str []] [[], [], [0, 1, 2, 3, 9]] ?_
        iterate 3 refine op1 tok ?_
        refine runEnd ?_
        refine rgn [] [[], [], [0, 1, 2, 3, 9]] ?_
        iterate 3 refine op1 tok ?_
        refine runEnd ?_
        refine rgn [] [[]] ?_
        refine op1 tok ?_
        refine runEnd ?_
        refine AW.seq ?_
        refine AW.block ?_
        refine AW.loop (α := List (List UInt8) × List UInt8) (fun a => splitB c s = a.1 ++ splitB c a.2 ∧ a.1.length + a.2.count c = N ∧ a.2.length ≤ s.length) (fun a => ⟨upds 66 [(0, .p (.str a.2)), (1, .p (.str [c])), (2, .p (.int .i64 0)), (3, .p (.int .i64 N)), (9, .ms 91), (10, .p (.int .i64 a.1.length))], [], [(91, .row 9 1 (a.1.map PD.str ++ .str [] :: List.replicate (N - a.1.length) (.str [])))], 60⟩) (fun a => N - a.1.length) (([], s)) ⟨by simp, by simpa using hN, by simp⟩ ⟨upds_le (by simp [hlt]), rfl, by simp [hlt, List.replicate_succ], by simp [hlt]⟩ ?_
        rintro ⟨done, r⟩ ⟨hsp, hcn, hrl⟩
        simp only at hsp hcn hrl
        have hI := Index_ev (G := G) r c
        refine AW.seq ?_
        refine rgn [] [[], [], [0, 1, 2, 3, 9, 10, 36]] ?_
        iterate 3 refine op1 tok ?_
        refine runEnd ?_
        refine cnd ?_ ?_
        · intro h36
          try simp at h36
          have hm : c ∈ r := by
            apply Classical.byContradiction; intro h
            have := List.count_eq_zero.2 h; omega
          obtain ⟨a, q, rfl, hn⟩ := mem_split hm
          rw [splitB_at hn] at hsp
          rw [count_at hn] at hcn
          simp only [List.length_append, List.length_cons] at hrl
          rw [indexB_at hn] at hI
          have hrep : List.replicate (N - done.length) (PD.str []) = PD.str [] :: List.replicate (N - (done.length + 1)) (PD.str []) := by
            rw [show N - done.length = (N - (done.length + 1)) + 1 by omega, List.replicate_succ]
          have hdq : List.drop (a.length + 1) (List.take ((a.length : Int) + ((q.length : Int) + 1)).toNat (a ++ c :: q)) = q := by
            rw [List.take_of_length_le (by simp; omega)]; simp
          refine AW.skip ?_
          refine AW.block ?_
          refine rgn [.nilp, .int .i64 a.length] [[], [], [], [0, 1, 2, 3, 9, 10, 11]] ?_
          iterate 4 refine op1 tok ?_ (hv := by first | with_reducible exact True.intro | (exact hI; done) | omega | simp | (simp; omega) | (simp +contextual; omega))
          refine runEnd ?_
          refine AW.seq ?_
          refine rgn [] [[], [0, 1, 2, 3, 9, 10, 11, 41]] ?_
          iterate 2 refine op1 tok ?_
          refine runEnd ?_
          refine cnd ?_ ?_
          · intro h41
            try simp at h41
            omega
          · intro h41
            try simp at h41
            refine AW.skip ?_
            refine rgn [.str [], .str a] [[], [], [], [], [], [], [0, 1, 2, 3, 9, 10, 11, 42, 43, 48], [], [0, 1, 2, 3, 9, 10, 11]] ?_
            iterate 9 refine op1 tok ?_ (hv := by first | with_reducible exact True.intro | (first | (simp [get_mid]; done) | (simp [get_mid]; omega); done) | omega | simp | (simp; omega) | (simp +contextual; omega))
            refine runEnd ?_
            refine rgn [] [[], [], [], [], [1, 2, 3, 9, 10, 50, 54], [], [0, 1, 2, 3, 9, 10]] ?_
            iterate 7 refine op1 tok ?_
            refine runEnd ?_
            refine rgz [] [[], [], [0, 1, 2, 3, 9, 10]] ?_
            iterate 3 refine op1 tok ?_
            refine runEnd ?_
            exact ⟨(done ++ [a], q), ⟨by simp [hsp], by simp; omega, by simp only []; omega⟩, by simp; omega, upds_le (by simp [set_mid, hrep, hdq]), rfl, by simp [set_mid, hrep, hdq], by simp [set_mid, hrep, hdq]⟩
        · intro h36
          try simp at h36
          have hm : c ∉ r := by
            intro h
            have := List.count_pos_iff.2 h; omega
          rw [splitB_no hm] at hsp
          have hdl : done.length = N := by have := List.count_eq_zero.2 hm; omega
          subst hdl
          have hfin : List.take (done.length + 1) (List.map PD.str done ++ [PD.str r]) = List.map PD.str (splitB c s) := by
            rw [hsp, List.take_of_length_le (by simp)]; simp
          refine AW.exit ?_
          simp
          refine rgn [.str [], .str r] [[], [], [], [], [9, 10]] ?_
          iterate 5 refine op1 tok ?_ (hv := by first | with_reducible exact True.intro | (first | (simp [get_mid]; done) | (simp [get_mid]; omega); done) | omega | simp | (simp; omega) | (simp +contextual; omega))
          refine runEnd ?_
          refine rgn [] [[], [], []] ?_
          iterate 3 refine op1 tok ?_
          refine runOff ?_
          refine AOpsO.stepK [65] (y_cutRow tok rfl rfl (done.length + 1) (by conv => lhs; simp) trivial (by conv => lhs; simp) trivial rfl (by conv => lhs; simp [set_mid]) (by simp) (by omega)) (by conv => lhs; simp [hfin]) rfl ?_
          refine AOpsO.run [[8]] ?_
          refine op1 tok ?_
          refine runEnd ?_
          exact AW.ret ⟨.inr rfl, _, _, by (conv => lhs; simp), trivial, by simp, by simp, by simp, by simp⟩
      · intro h20
        try simp at h20
theorem genSplit_ar (s : List UInt8) (c : UInt8) (hs : s.length ≤ 1000000000) : AR Tryz.prog G 66 [.str s, .str [c], .int .i64 0, .int .i64 (-1)] 9 1 ((splitB c s).map PD.str) := AR.of_AX (k := 91) (by simpa using genSplit_ax s c hs)
theorem Split_ax (s : List UInt8) (c : UInt8) (hs : s.length ≤ 1000000000) : AX Tryz.prog G 28 [.p (.str s), .p (.str [c])] [] (.ms 67) [] [(67, .row 9 1 ((splitB c s).map PD.str))] := by
  refine AX.introU tok 60 Tryz.func28 (by kernel_rfl) rfl rfl ?_
  simp only [Tryz.f28, enumA, List.map_cons, List.map_nil]
  have hG := genSplit_ar (G := G) s c hs
  refine rgn [] [[0, 1]] ?_
  refine op1 tok ?_
  refine runEnd ?_
  refine rgn [.nilf, .sl 1 ((splitB c s).map PD.str), .clo 9 []] [[], [], [7], [4]] ?_
  iterate 4 refine op1 tok ?_ (hv := by first | with_reducible exact True.intro | (first | exact hG | (simp; exact hG); done) | omega | simp | (simp; omega) | (simp +contextual; omega))
  refine runEnd ?_
  exact AW.ret ⟨.inr rfl, _, _, by (conv => lhs; simp), trivial, by simp, by simp, by simp, by simp⟩
theorem Split_ar (s : List UInt8) (c : UInt8) (hs : s.length ≤ 1000000000) : AR Tryz.prog G 28 [.str s, .str [c]] 9 1 ((splitB c s).map PD.str) := AR.of_AX (k := 67) (by simpa using Split_ax s c hs)
end Go.Proofs.YtdjjmppnnkkloaaGreatDoor
/-
  OUR OWN LAYER: how contracts of the kit's shelf become ours; the tables of unicode/utf8.
-/
namespace Go.Proofs.YtdjjmppnnkkloaaGreatDoor
open Sy Go
namespace Sy
variable {P : Program} {G : Glob}
theorem AFn.of_calls {f : FuncId} {args : List PD} {r : PD} (hc : Callable P f) (h : ∀ (M : FMap) (w : World) (vs : Array Value), GOK G M w → (∀ b o v, M b o = some v → w.cell? ⟨b, o, none⟩ = some v) → vs.size = args.length →
    (∀ (i : Nat) u d, vs[i]? = some u → args[i]? = some d → Rd M u d) → Calls P f vs w fun e w' => ∃ v, e = .returned v ∧ Rd M v r ∧ RowKit.Below w.heap.size w w') : AFn P G f args r := by
  refine ⟨hc, fun M w vs hg hmem hsz hrd => (h M w vs hg hmem hsz hrd).mono ?_⟩
  rintro e w' ⟨v, rfl, hv, hb⟩
  refine ⟨v, M, rfl, hv, fun b o u hu => ?_, fun _ _ _ h => h, fun _ _ _ => rfl, hb⟩
  have h1 := hmem b o u hu
  exact (World.cell?_of_block (w := w) (hb.block b (lt_of_cell h1))).trans h1
theorem callable_of {f : FuncId} {fn : Func} {c : Code} (hf : P.funcs[f]? = some fn) (hn : (fn.name == "runtime.NumGoroutine") = false) (hb : fn.body = some c) : Callable P f := ⟨fn, c, hf, hn, hb⟩
theorem arg_str {M : FMap} {vs : Array Value} {s : List UInt8} (hsz : vs.size = 1) (h : ∀ (i : Nat) u d, vs[i]? = some u → [PD.str s][i]? = some d → Rd M u d) : ∃ b : ByteArray, vs = #[.string b] ∧ b.data.toList = s ∧ b.size ≤ maxLen := by
  obtain ⟨l⟩ := vs
  match l, hsz with
  | [u], _ =>
    have := h 0 u (.str s) rfl rfl
    cases this with
    | @str b _ hs hm => exact ⟨b, rfl, hs, by rw [str_size hs]; exact hm⟩
/-- The tables of unicode/utf8. -/
def firstP : List PD := (List.range 256).map fun c => .int .u8 (Lib.firstT c)
def accP : List PD := (List.range 32).map fun i => .int .u8 (if i % 2 = 0 then Lib.accLo (i / 2) else Lib.accHi (i / 2))
def HasU8 (g3 g4 : Nat) (G : Glob) : Prop := G g3 = some firstP ∧ G g4 = some accP
theorem u8_tabs {g3 g4 : Nat} {M : FMap} {w : World} (hG : HasU8 g3 g4 G) (hg : GOK G M w) (hmem : ∀ b o v, M b o = some v → w.cell? ⟨b, o, none⟩ = some v) : Lib.Utf8Tabs g3 g4 w := by
  have key : ∀ (g : Nat) (cs : List PD) (j : Nat) (n : Int), G g = some cs → cs[j]? = some (.int .u8 n) → w.cell? ⟨g, j, none⟩ = some (.int .u8 n) := by
    intro g cs j n h1 h2
    obtain ⟨h3, h4⟩ := hg.1 g cs h1
    obtain ⟨u, hu, _⟩ := h3 j _ h2
    have := h4 j _ u h2 hu
    cases this
    exact hmem _ _ _ hu
  refine ⟨fun c hc => key _ _ _ _ hG.1 (by simp [firstP, hc]), fun i hi => ⟨key _ _ _ _ hG.2 ?_, key _ _ _ _ hG.2 ?_⟩⟩
  · simp [accP, show 2 * i < 32 by omega]
  · simp only [accP, List.getElem?_map, List.getElem?_range (show 2 * i + 1 < 32 by omega), Option.map_some]
    rw [if_neg (by omega), show (2 * i + 1) / 2 = i by omega]
def u8G (g3 g4 : Nat) : Glob := fun g => if g = g3 then some firstP else if g = g4 then some accP else none
theorem u8G_has {g3 g4 : Nat} (h : g4 ≠ g3) : HasU8 g3 g4 (u8G g3 g4) := ⟨by simp [u8G], by simp [u8G, h]⟩
theorem u8G_ok {g3 g4 : Nat} {W : World} (h : Lib.Utf8Tabs g3 g4 W) (hne : g4 ≠ g3) : GOK (u8G g3 g4) (memOf W) W := by
  have one : ∀ (g j : Nat) (cs : List PD), (∀ (j : Nat) d, cs[j]? = some d → ∃ n : Int, d = .int .u8 n ∧ 0 ≤ n ∧ n ≤ 255 ∧ W.cell? ⟨g, j, none⟩ = some (.int .u8 n)) →
      (∀ (j : Nat) d, cs[j]? = some d → ∃ u, memOf W g j = some u ∧ u.oneCell' = true) ∧ (∀ (j : Nat) d u, cs[j]? = some d → memOf W g j = some u → Rd (memOf W) u d) := by
    intro g _ cs hc
    refine ⟨fun j d hd => ?_, fun j d u hd hu => ?_⟩
    · obtain ⟨n, rfl, _, _, h⟩ := hc j d hd; exact ⟨_, h, rfl⟩
    · obtain ⟨n, rfl, h0, h1, h⟩ := hc j d hd
      have : some u = some (Value.int .u8 n) := hu.symm.trans h
      cases this
      exact .int (by rw [kmin_eq]; exact h0) (by rw [kmax_eq]; exact h1)
  have hft : ∀ c, (0 : Int) ≤ Lib.firstT c ∧ (Lib.firstT c : Int) ≤ 255 := fun c => by
    rcases Lib.firstT_cases c with h | h | h | h | h | h | h | h | h <;> rw [h] <;> omega
  have hno : GX (u8G g3 g4) W := fun g cs hg ht => by
    simp only [u8G] at hg
    split at hg
    · cases hg; exact absurd ht (by rw [show isTab firstP = false from rfl]; simp)
    · split at hg
      · cases hg; exact absurd ht (by rw [show isTab accP = false from rfl]; simp)
      · cases hg
  refine ⟨?_, hno⟩
  intro g cs hg
  simp only [u8G] at hg
  split at hg
  · rename_i e
    subst e
    cases hg
    refine one g 0 _ fun j d hd => ?_
    have hj : j < 256 := by have := (List.getElem?_eq_some_iff.1 hd).1; simpa [firstP] using this
    simp [firstP, hj] at hd
    exact ⟨_, hd.symm, (hft j).1, (hft j).2, h.1 j hj⟩
  · split at hg
    · rename_i _ e
      subst e
      cases hg
      refine one g 0 _ fun j d hd => ?_
      have hj : j < 32 := by have := (List.getElem?_eq_some_iff.1 hd).1; simpa [accP] using this
      simp only [accP, List.getElem?_map, List.getElem?_range hj, Option.map_some, Option.some.injEq] at hd
      have hb := h.2 (j / 2) (by omega)
      have hacc : ∀ i, i < 16 → (0 : Int) ≤ Lib.accLo i ∧ (Lib.accLo i : Int) ≤ 255 ∧ (0 : Int) ≤ Lib.accHi i ∧ (Lib.accHi i : Int) ≤ 255 := by decide
      have hac := hacc (j / 2) (by omega)
      by_cases h2 : j % 2 = 0
      · rw [if_pos h2] at hd
        exact ⟨_, hd.symm, hac.1, hac.2.1, by have := hb.1; rwa [show 2 * (j / 2) = j by omega] at this⟩
      · rw [if_neg h2] at hd
        exact ⟨_, hd.symm, hac.2.2.1, hac.2.2.2, by have := hb.2; rwa [show 2 * (j / 2) + 1 = j by omega] at this⟩
    · cases hg
end Sy
variable {G : Glob}
abbrev U8 (G : Glob) : Prop := HasU8 0 1 G
end Go.Proofs.YtdjjmppnnkkloaaGreatDoor
/-
  DERIVED: THE SHELF's CONTRACTS AT THIS DUMP, IN PLAIN WORDS (tools/lay-plain.mjs out of 'TryzShelfQ.lean', which tools/lay-shelf.mjs wrote): THE SAME DECLARATIONS UNDER THE SAME NAMES: 'import', 'namespace', 'open', 'def', 'theorem' AND NOTHING ELSE: no command of the shelf's: FOR A HAND-IN. Each laying: the table of numbers ('.._ren') and one theorem, a field a fact of the dump's own or the kernel's comparison; each contract: ONE APPLICATION.
-/
namespace Go.Proofs
open Go.Shelf
def Tryz.lays196_ren : Go.Shelf.Ren := ⟨fun | 196 => 83 | 259 => 116 | n => n, fun | 9 => 9 | 4 => 4 | 3 => 3 | 5 => 5 | 12 => 12 | 119 => 141 | 0 => 0 | 46 => 119 | 139 => 144 | 138 => 143 | 53 => 37 | n => n, fun | 3 => 0 | 4 => 1 | n => n⟩
theorem Tryz.lays196 : Go.Proofs.Lays.n196 Tryz.prog Tryz.lays196_ren := {
  mixed := by kernel_rfl
  f196 := Tryz.func83.trans (congrArg some (by kernel_rfl))
  f259 := Tryz.func116.trans (congrArg some (by kernel_rfl))
  t0 := Tryz.underlying0
  a0 := Tryz.isAgg0
  z0 := Tryz.sizeOf0
  v0 := Tryz.zeroValue0
  t3 := Tryz.underlying3
  a3 := Tryz.isAgg3
  z3 := Tryz.sizeOf3
  v3 := Tryz.zeroValue3
  t4 := Tryz.underlying4
  a4 := Tryz.isAgg4
  z4 := Tryz.sizeOf4
  v4 := Tryz.zeroValue4
  t5 := Tryz.underlying5
  a5 := Tryz.isAgg5
  z5 := Tryz.sizeOf5
  v5 := Tryz.zeroValue5
  t9 := Tryz.underlying9
  a9 := Tryz.isAgg9
  z9 := Tryz.sizeOf9
  v9 := Tryz.zeroValue9
  t12 := Tryz.underlying12
  a12 := Tryz.isAgg12
  z12 := Tryz.sizeOf12
  v12 := Tryz.zeroValue12
  t46 := Tryz.underlying119
  a46 := Tryz.isAgg119
  z46 := Tryz.sizeOf119
  v46 := Tryz.zeroValue119
  t53 := Tryz.underlying37
  a53 := Tryz.isAgg37
  z53 := Tryz.sizeOf37
  v53 := Tryz.zeroValue37
  t119 := Tryz.underlying141
  a119 := Tryz.isAgg141
  z119 := Tryz.sizeOf141
  t138 := Tryz.underlying143
  a138 := Tryz.isAgg143
  z138 := Tryz.sizeOf143
  v138 := Tryz.zeroValue143
  t139 := Tryz.underlying144
  a139 := Tryz.isAgg144
  z139 := Tryz.sizeOf144
  v139 := Tryz.zeroValue144
  g3 := by kernel_rfl
  g4 := by kernel_rfl }
def Tryz.lays197_ren : Go.Shelf.Ren := ⟨fun | 197 => 107 | 260 => 127 | n => n, fun | 9 => 9 | 21 => 21 | 3 => 3 | 4 => 4 | 5 => 5 | 105 => 134 | 119 => 141 | 0 => 0 | 46 => 119 | 139 => 144 | 138 => 143 | n => n, fun | 3 => 0 | 4 => 1 | n => n⟩
theorem Tryz.lays197 : Go.Proofs.Lays.n197 Tryz.prog Tryz.lays197_ren := {
  mixed := by kernel_rfl
  f197 := Tryz.func107.trans (congrArg some (by kernel_rfl))
  f260 := Tryz.func127.trans (congrArg some (by kernel_rfl))
  t0 := Tryz.underlying0
  a0 := Tryz.isAgg0
  z0 := Tryz.sizeOf0
  v0 := Tryz.zeroValue0
  t3 := Tryz.underlying3
  a3 := Tryz.isAgg3
  z3 := Tryz.sizeOf3
  v3 := Tryz.zeroValue3
  t4 := Tryz.underlying4
  a4 := Tryz.isAgg4
  z4 := Tryz.sizeOf4
  v4 := Tryz.zeroValue4
  t5 := Tryz.underlying5
  a5 := Tryz.isAgg5
  z5 := Tryz.sizeOf5
  v5 := Tryz.zeroValue5
  t9 := Tryz.underlying9
  a9 := Tryz.isAgg9
  z9 := Tryz.sizeOf9
  v9 := Tryz.zeroValue9
  t21 := Tryz.underlying21
  a21 := Tryz.isAgg21
  z21 := Tryz.sizeOf21
  v21 := Tryz.zeroValue21
  t46 := Tryz.underlying119
  a46 := Tryz.isAgg119
  z46 := Tryz.sizeOf119
  v46 := Tryz.zeroValue119
  t105 := Tryz.underlying134
  a105 := Tryz.isAgg134
  z105 := Tryz.sizeOf134
  v105 := Tryz.zeroValue134
  t119 := Tryz.underlying141
  a119 := Tryz.isAgg141
  z119 := Tryz.sizeOf141
  t138 := Tryz.underlying143
  a138 := Tryz.isAgg143
  z138 := Tryz.sizeOf143
  v138 := Tryz.zeroValue143
  t139 := Tryz.underlying144
  a139 := Tryz.isAgg144
  z139 := Tryz.sizeOf144
  v139 := Tryz.zeroValue144
  g3 := by kernel_rfl
  g4 := by kernel_rfl }
def Tryz.lays169_ren : Go.Shelf.Ren := ⟨fun | 169 => 89 | n => n, fun | 70 => 109 | 9 => 9 | 0 => 0 | 72 => 112 | 37 => 110 | 127 => 147 | 3 => 3 | 5 => 5 | n => n, fun | n => n⟩
theorem Tryz.lays169 : Go.Proofs.Lays.n169 Tryz.prog Tryz.lays169_ren := {
  mixed := by kernel_rfl
  f169 := Tryz.func89.trans (congrArg some (by kernel_rfl))
  t0 := Tryz.underlying0
  a0 := Tryz.isAgg0
  z0 := Tryz.sizeOf0
  v0 := Tryz.zeroValue0
  t3 := Tryz.underlying3
  a3 := Tryz.isAgg3
  z3 := Tryz.sizeOf3
  v3 := Tryz.zeroValue3
  t9 := Tryz.underlying9
  a9 := Tryz.isAgg9
  z9 := Tryz.sizeOf9
  v9 := Tryz.zeroValue9
  t37 := Tryz.underlying110
  a37 := Tryz.isAgg110
  z37 := Tryz.sizeOf110
  v37 := Tryz.zeroValue110
  t70 := Tryz.underlying109
  a70 := Tryz.isAgg109
  z70 := Tryz.sizeOf109
  v70 := Tryz.zeroValue109
  t72 := Tryz.underlying112
  a72 := Tryz.isAgg112
  z72 := Tryz.sizeOf112
  v72 := Tryz.zeroValue112
  t127 := Tryz.underlying147
  a127 := Tryz.isAgg147
  z127 := Tryz.sizeOf147
  v127 := Tryz.zeroValue147 }
def Tryz.lays156_ren : Go.Shelf.Ren := ⟨fun | 156 => 84 | 165 => 117 | 166 => 88 | 169 => 89 | 240 => 118 | 241 => 139 | 276 => 140 | 277 => 158 | n => n, fun | 31 => 22 | 9 => 9 | 3 => 3 | 4 => 4 | 0 => 0 | 20 => 20 | 72 => 112 | 76 => 116 | 70 => 109 | 37 => 110 | 75 => 114 | 127 => 147 | 164 => 160 | 5 => 5 | 80 => 120 | n => n, fun | n => n⟩
theorem Tryz.lays156 : Go.Proofs.Lays.n156 Tryz.prog Tryz.lays156_ren := {
  mixed := by kernel_rfl
  f156 := Tryz.func84.trans (congrArg some (by kernel_rfl))
  f165 := Tryz.func117.trans (congrArg some (by kernel_rfl))
  f166 := Tryz.func88.trans (congrArg some (by kernel_rfl))
  f169 := Tryz.func89.trans (congrArg some (by kernel_rfl))
  f240 := Tryz.func118.trans (congrArg some (by kernel_rfl))
  f241 := Tryz.func139.trans (congrArg some (by kernel_rfl))
  f276 := Tryz.func140.trans (congrArg some (by kernel_rfl))
  f277 := Tryz.func158.trans (congrArg some (by kernel_rfl))
  t0 := Tryz.underlying0
  a0 := Tryz.isAgg0
  z0 := Tryz.sizeOf0
  v0 := Tryz.zeroValue0
  t3 := Tryz.underlying3
  a3 := Tryz.isAgg3
  z3 := Tryz.sizeOf3
  v3 := Tryz.zeroValue3
  t4 := Tryz.underlying4
  a4 := Tryz.isAgg4
  z4 := Tryz.sizeOf4
  v4 := Tryz.zeroValue4
  t9 := Tryz.underlying9
  a9 := Tryz.isAgg9
  z9 := Tryz.sizeOf9
  v9 := Tryz.zeroValue9
  t20 := Tryz.underlying20
  a20 := Tryz.isAgg20
  z20 := Tryz.sizeOf20
  v20 := Tryz.zeroValue20
  t31 := Tryz.underlying22
  a31 := Tryz.isAgg22
  z31 := Tryz.sizeOf22
  v31 := Tryz.zeroValue22
  t37 := Tryz.underlying110
  a37 := Tryz.isAgg110
  z37 := Tryz.sizeOf110
  v37 := Tryz.zeroValue110
  t70 := Tryz.underlying109
  a70 := Tryz.isAgg109
  z70 := Tryz.sizeOf109
  v70 := Tryz.zeroValue109
  t72 := Tryz.underlying112
  a72 := Tryz.isAgg112
  z72 := Tryz.sizeOf112
  v72 := Tryz.zeroValue112
  t75 := Tryz.underlying114
  a75 := Tryz.isAgg114
  z75 := Tryz.sizeOf114
  v75 := Tryz.zeroValue114
  t76 := Tryz.underlying116
  a76 := Tryz.isAgg116
  z76 := Tryz.sizeOf116
  v76 := Tryz.zeroValue116
  t127 := Tryz.underlying147
  a127 := Tryz.isAgg147
  z127 := Tryz.sizeOf147
  v127 := Tryz.zeroValue147
  t164 := Tryz.underlying160
  a164 := Tryz.isAgg160
  z164 := Tryz.sizeOf160
  v164 := Tryz.zeroValue160 }
end Go.Proofs
/-
  OUR OWN LAYER: strings.Join by the kit's shelf.
-/
namespace Go.Proofs.YtdjjmppnnkkloaaGreatDoor
open Sy Go
set_option maxRecDepth 100000
set_option linter.unusedSimpArgs false
set_option linter.unusedVariables false
variable {G : Glob}
theorem join_extra : Builder.Extra Tryz.prog Tryz.lays156_ren where
  sizeBuilder := by kernel_rfl
  liesBuilder := by kernel_rfl
  t5 := Tryz.underlying5
  a5 := Tryz.isAgg5
  z5 := Tryz.sizeOf5
  v5 := Tryz.zeroValue5
  infoByte := by kernel_rfl
  cellsByte := by kernel_rfl
  sizeByte := by kernel_rfl
  neB5 := by decide
def baOf (s : List UInt8) : ByteArray := ⟨s.toArray⟩
theorem baOf_eq {ba : ByteArray} {s : List UInt8} (h : ba.data.toList = s) : ba = baOf s := by
  subst h; rfl
theorem baOf_map (l : List (List UInt8)) : (l.map baOf).map (·.data.toList) = l := by
  rw [List.map_map]; conv => rhs; rw [← List.map_id l]
  exact List.map_congr_left fun s _ => by simp [baOf]
theorem Join_ev (l : List (List UInt8)) (sep : List UInt8) (hN : l.length ≤ 140737488355328) (h : (Lib.join l sep).length ≤ 140737488355328) : AFn Tryz.prog G 84 [.sl 1 (l.map PD.str), .str sep] (.str (Lib.join l sep)) := by
  refine AFn.of_calls (callable_of Tryz.func84 (by kernel_rfl) rfl) fun M w vs hg hmem hsz hrd => ?_
  obtain ⟨vl⟩ := vs
  match vl, hsz with
  | [u, v], _ =>
  have h1 := hrd 0 u _ rfl rfl
  have h2 := hrd 1 v _ rfl rfl
  cases h2 with
  | @str sb _ hsb hsl =>
  subst hsb
  cases h1 with
  | @sl a n c _ _ b o hn hnc hcm ha h5 h6 h7 =>
  rw [List.length_map] at hn
  have hml : (Lib.join l sb.data.toList).length ≤ maxLen := by simp only [maxLen]; omega
  by_cases hk : l = []
  · subst hk; simp at hn; subst hn
    refine (Any.strings_Join_none Tryz.lays156 join_extra a c sb w).mono ?_
    rintro e w' ⟨rfl, rfl⟩
    exact ⟨_, rfl, .str (by simp [Lib.join_nil]) (by simpa using hml), RowKit.Below.refl _ _⟩
  · have hpos : 0 < l.length := List.length_pos_iff.2 hk
    obtain rfl := ha (by omega)
    have hcell : ∀ j x, (l.map baOf)[j]? = some x → w.cell? ⟨b, o + j, none⟩ = some (.string x) := fun j x hx => by
      rw [List.getElem?_map, Option.map_eq_some_iff] at hx
      obtain ⟨s, hs, rfl⟩ := hx
      have hgt : (l.map PD.str)[j]? = some (.str s) := by rw [List.getElem?_map, hs]; rfl
      obtain ⟨u, hu, _⟩ := h6 j _ 0 hgt (by omega)
      have h8 := h7 j _ 0 _ u hgt rfl hu
      cases h8 with
      | @str ba _ hba hl =>
      have := hmem _ _ _ hu
      simp only [Nat.mul_one, Nat.add_zero] at this
      rw [this, baOf_eq hba]
    have hlt : b < w.heap.size := by
      obtain ⟨x, r, rfl⟩ : ∃ x r, l = x :: r := by
        cases l with
        | nil => exact (hk rfl).elim
        | cons x r => exact ⟨x, r, rfl⟩
      exact lt_of_cell (hcell 0 (baOf x) rfl)
    have hc := Any.strings_Join Tryz.lays156 join_extra b o c (l.map baOf) sb w hcell hlt (by rw [List.length_map]; exact hN) (by rw [List.length_map]; omega) (by rw [baOf_map]; exact h)
    rw [List.length_map, ← hn] at hc
    refine hc.mono ?_
    rintro e w' ⟨rfl, hb⟩
    rw [baOf_map]
    exact ⟨_, rfl, .str (by simp) (by simpa using hml), hb⟩
end Go.Proofs.YtdjjmppnnkkloaaGreatDoor
namespace Go.Proofs.YtdjjmppnnkkloaaGreatDoor
open Sy Go
set_option maxRecDepth 100000
set_option maxHeartbeats 4000000
set_option linter.unusedSimpArgs false
set_option linter.unusedVariables false
variable {G : Glob}
theorem places_ax (cats : List (List UInt8)) (hl : cats.length ≤ 1000000000) : AX Tryz.prog G 80 [.p (.sl 1 (cats.map PD.str))] [] (.tuple [.ms 67, .p (.bool (decide cats.Nodup))]) [] [(67, .mp (plK cats cats.length) (plV cats cats.length))] := by
  refine AX.introU tok 60 Tryz.func80 (by kernel_rfl) rfl rfl ?_
  simp only [Tryz.f80, enumA, List.map_cons, List.map_nil]
  refine rgn [] [[], [0]] ?_
  iterate 2 refine op1 tok ?_
  refine runEnd ?_
  refine rgn [] [[], [0, 4]] ?_
  iterate 2 refine op1 tok ?_
  refine runEnd ?_
  refine AW.seq ?_
  refine rgn [] [[], [], []] ?_
  iterate 3 refine op1 tok ?_
  refine runEnd ?_
  refine AW.block ?_
  refine AW.loop (α := Nat) (fun k => k ≤ cats.length) (fun k => ⟨upds 25 [(0, .p (.sl 1 (cats.map PD.str))), (4, .ms 67), (8, .p (.sl 1 (cats.map PD.str))), (9, .p (.int .i64 cats.length)), (10, .p (.int .i64 k))], [], [(67, .mp (plK cats k) (plV cats k))], 60⟩) (fun k => cats.length - k) (0) (by omega) ⟨upds_le (by simp), rfl, by simp [plK, plV], by simp⟩ ?_
  rintro k hk
  refine rgn [] [[]] ?_
  refine op1 tok ?_
  refine runEnd ?_
  refine AW.seq ?_
  refine cnd ?_ ?_
  · intro h11
    try simp at h11
    obtain ⟨s, hs⟩ : ∃ s, cats[k]? = some s := ⟨cats[k], by simp [h11]⟩
    have hnd := plK_nodup cats k
    refine AW.skip ?_
    refine AW.seq ?_
    refine AW.block ?_
    refine rgn [.str s] [[], [], [], [], [0, 4, 5, 6, 8, 9, 10]] ?_
    iterate 5 refine op1 tok ?_ (hv := by first | with_reducible exact True.intro | (simp [hs]; done) | omega | simp | (simp; omega) | (simp +contextual; omega))
    refine runEnd ?_
    refine rgz [] [[], [], []] ?_
    iterate 3 refine op1 tok ?_
    refine runOff ?_
    refine AOpsO.stepK [0, 4, 8, 9, 10] (y_mapPut tok rfl rfl rfl (by conv => lhs; simp) trivial (by conv => lhs; simp) trivial (by conv => lhs; simp) trivial (by conv => lhs; simp) hnd) (by conv => lhs; simp) rfl ?_
    refine AOpsO.nil ?_
    refine rgz [] [[], [0, 4, 8, 9, 10]] ?_
    iterate 2 refine op1 tok ?_
    refine runEnd ?_
    exact ⟨k + 1, by omega, by omega, upds_le (by simp [plK, plV, hs]), rfl, by simp [plK, plV, hs], by simp [plK, plV, hs]⟩
  · intro h11
    try simp at h11
    obtain rfl : k = cats.length := by omega
    have hle := plK_le cats cats.length
    have hpl := plK_len cats
    have hdec : (decide (((plK cats cats.length).length : Int) = (cats.length : Int))) = decide cats.Nodup := by
      rw [Bool.eq_iff_iff, decide_eq_true_eq, decide_eq_true_eq, ← hpl]; omega
    refine AW.exit ?_
    simp
    refine rgn [] [[], []] ?_
    iterate 2 refine op1 tok ?_
    refine runOff ?_
    refine AOpsO.stepK [0, 19, 21] (y_lenMap tok rfl rfl (by conv => lhs; simp) trivial (by conv => lhs; simp) (by omega)) (by conv => lhs; simp) rfl ?_
    refine AOpsO.run [[], [], [19, 24], [], [2, 3]] ?_
    iterate 5 refine op1 tok ?_
    refine runEnd ?_
    exact AW.ret ⟨.inr rfl, _, _, by (conv => lhs; simp), trivial, by simp [hdec], by simp, by simp, by simp⟩
/-- What a map's entry tells: its key may be a name. -/
def KeyOK (e : MapEntry) : Prop := ∀ ba, e.key = .string ba → mayNameM ba.data.toList = true
theorem key_of {es : Array MapEntry} {ks : List (List UInt8)} (h : MapKeys es ks) {e : MapEntry} (he : e ∈ es.toList) : ∃ k ba, k ∈ ks ∧ e.key = .string ba ∧ ba.data.toList = k ∧ k.length ≤ maxLen := by
  obtain ⟨j, hj⟩ := List.mem_iff_getElem?.1 he
  have hj' : es[j]? = some e := by simpa using hj
  have hjl : j < ks.length := by rw [← h.1]; exact (Array.getElem?_eq_some_iff.1 hj').1
  obtain ⟨ba, h1, h2, h3⟩ := h.2 j e ks[j] hj' (by simp [hjl])
  exact ⟨ks[j], ba, List.getElem_mem _, h1, h2, h3⟩
theorem key_all {es : Array MapEntry} {ks : List (List UInt8)} (h : MapKeys es ks) : (∀ e ∈ es.toList, KeyOK e) ↔ ks.all mayNameM = true := by
  rw [List.all_eq_true]
  constructor
  · intro hall k hk
    obtain ⟨j, hj, rfl⟩ := List.mem_iff_getElem.1 hk
    have hjl : j < es.size := by rw [h.1]; exact hj
    obtain ⟨ba, h1, h2, h3⟩ := h.2 j es[j] ks[j] (by simp [hjl]) (by simp [hj])
    have := hall es[j] (by simp) ba h1
    rwa [h2] at this
  · intro hall e he ba hba
    obtain ⟨k, ba', hk, h1, h2, _⟩ := key_of h he
    rw [h1] at hba; cases hba
    rw [h2]; exact hall k hk
theorem seen_push {es : Array MapEntry} (hn : (es.toList.map (·.born)).Nodup) {seen : Array Nat} {e x : MapEntry} (he : e ∈ es.toList) (hx : x ∈ es.toList) : (seen.push e.born).contains x.born = true ↔ seen.contains x.born = true ∨ x = e := by
  have hinj : ∀ {l : List MapEntry}, (l.map (·.born)).Nodup → ∀ a ∈ l, ∀ b ∈ l, a.born = b.born → a = b := by
    intro l
    induction l with
    | nil => intro _ a ha; cases ha
    | cons c l ih =>
      intro hn a ha b hb hab
      simp only [List.map_cons, List.nodup_cons] at hn
      have hno : ∀ d ∈ l, d.born ≠ c.born := fun d hd e => hn.1 (List.mem_map.2 ⟨d, hd, e⟩)
      rcases List.mem_cons.1 ha with h1 | h1
      · rcases List.mem_cons.1 hb with h2 | h2
        · rw [h1, h2]
        · rw [h1] at hab; exact absurd hab.symm (hno b h2)
      · rcases List.mem_cons.1 hb with h2 | h2
        · rw [h2] at hab; exact absurd hab (hno a h1)
        · exact ih hn.2 a h1 b h2 hab
  simp only [Array.contains_push, Bool.or_eq_true, beq_iff_eq]
  constructor
  · rintro (h | h)
    · exact .inl h
    · exact .inr (hinj hn x hx e he h)
  · rintro (h | rfl)
    · exact .inl h
    · exact .inr rfl
theorem left_less {es : Array MapEntry} (hn : (es.toList.map (·.born)).Nodup) {seen : Array Nat} {e : MapEntry} (he : e ∈ es.toList) (hs : seen.contains e.born = false) :
    (es.toList.filter fun x => !(seen.push e.born).contains x.born).length < (es.toList.filter fun x => !seen.contains x.born).length := by
  have key : ∀ {l : List MapEntry}, (∀ x ∈ l, x ∈ es.toList) → (l.filter fun x => !(seen.push e.born).contains x.born).length ≤ (l.filter fun x => !seen.contains x.born).length ∧ (e ∈ l → (l.filter fun x => !(seen.push e.born).contains x.born).length < (l.filter fun x => !seen.contains x.born).length) := by
    intro l
    induction l with
    | nil => intro _; simp
    | cons c l ih =>
      intro h
      obtain ⟨i1, i2⟩ := ih fun x hx => h x (by simp [hx])
      have hp := seen_push hn (seen := seen) he (h c (by simp))
      simp only [List.filter_cons]
      cases hc : seen.contains c.born with
      | true =>
        rw [hp.2 (.inl hc)]
        refine ⟨i1, fun hm => i2 ?_⟩
        rcases List.mem_cons.1 hm with rfl | hm
        · rw [hs] at hc; cases hc
        · exact hm
      | false =>
        cases hd : (seen.push e.born).contains c.born with
        | true => exact ⟨by rw [if_neg (by simp), if_pos (by simp), List.length_cons]; omega, fun _ => by rw [if_neg (by simp), if_pos (by simp), List.length_cons]; omega⟩
        | false =>
          refine ⟨by rw [if_pos (by simp), if_pos (by simp), List.length_cons, List.length_cons]; omega, fun hm => ?_⟩
          rcases List.mem_cons.1 hm with rfl | hm
          · rw [hp.2 (.inr rfl)] at hd; cases hd
          · have := i2 hm; rw [if_pos (by simp), if_pos (by simp), List.length_cons, List.length_cons]; omega
  exact (key fun _ h => h).2 he
theorem plV_no (id : Nat) (cats : List (List UInt8)) : ∀ k, V.noRefL id (plV cats k) = true
  | 0 => rfl
  | k + 1 => by
    have key : ∀ (vs : List V) (i : Nat), V.noRefL id vs = true → V.noRefL id (vs.set i (.p (.int .i64 k))) = true := by
      intro vs
      induction vs with
      | nil => intro i _; rfl
      | cons v vs ih =>
        intro i h
        simp only [V.noRefL, Bool.and_eq_true] at h
        cases i with
        | zero => simp only [List.set_cons_zero, V.noRefL, Bool.and_eq_true]; exact ⟨rfl, h.2⟩
        | succ i => simp only [List.set_cons_succ, V.noRefL, Bool.and_eq_true]; exact ⟨h.1, ih i h.2⟩
    have app : ∀ (vs : List V), V.noRefL id vs = true → V.noRefL id (vs ++ [.p (.int .i64 k)]) = true := by
      intro vs
      induction vs with
      | nil => intro _; rfl
      | cons v vs ih =>
        intro h
        simp only [V.noRefL, Bool.and_eq_true] at h
        simp only [List.cons_append, V.noRefL, Bool.and_eq_true]; exact ⟨h.1, ih h.2⟩
    simp only [plV, mapV]
    split
    · exact key _ _ (plV_no id cats k)
    · exact app _ (plV_no id cats k)
theorem catsMay_ev (cats : List (List UInt8)) : AFn Tryz.prog G 44 [.sl 1 (cats.map PD.str)] (.int .i64 (catsMayM cats)) := by
  refine AFn.introU tok Tryz.func44 (by kernel_rfl) rfl rfl ?_
  simp only [Tryz.f44, enumA, List.map_cons, List.map_nil]
  unfold catsMayM
  refine rgn [] [[0]] ?_
  refine op1 tok ?_
  refine runEnd ?_
  refine AW.seq ?_
  refine rgn [] [[], [], [0, 8]] ?_
  iterate 3 refine op1 tok ?_
  refine runEnd ?_
  refine cnd ?_ ?_
  · intro h8
    try simp at h8
    rw [if_pos (show 64 < cats.length by omega)]
    refine rgn [] [[]] ?_
    refine op1 tok ?_
    refine runEnd ?_
    exact AW.ret ⟨.inr rfl, _, _, by (conv => lhs; simp), trivial, by simp⟩
  · intro h8
    try simp at h8
    rw [if_neg (show ¬ 64 < cats.length by omega)]
    refine AW.skip ?_
    refine rgn [] [[]] ?_
    refine op1 tok ?_
    refine runOff ?_
    refine AOpsO.stepK [11] (y_cx rfl (places_ax cats (by omega)) (by simp)) (by conv => lhs; simp) rfl ?_
    refine AOpsO.run [[], [], [], [], [3, 4]] ?_
    iterate 5 refine op1 tok ?_
    refine runEnd ?_
    refine AW.seq ?_
    refine rgn [] [[]] ?_
    refine op1 tok ?_
    refine runOff ?_
    refine AOpsO.rangeMap tok [4, 15] 15 rfl rfl (by conv => lhs; simp) trivial (by conv => lhs; simp) (by simp [plV_no]) rfl ?_
    intro es clock b r hkeys hborn
    refine AOpsO.same (by conv => lhs; simp) ?_
    refine AOpsO.nil ?_
    refine AW.block ?_
    refine AW.loop (α := Array Nat × Bool) (fun a => (a.2 = true ↔ cats.Nodup ∧ ∀ e ∈ es.toList, a.1.contains e.born = true → KeyOK e)) (fun a => ⟨upds 27 [(4, .p (.bool a.2)), (15, .it 15)], [], [(15, .obj r undef (.mapIter (some b) clock a.1 clock) [67]), (67, .obj b (.map (some b)) (.map es clock) [])], 0⟩) (fun a => (es.toList.filter fun x => !a.1.contains x.born).length) ((#[], decide cats.Nodup)) ⟨fun h => ⟨by simpa using h, fun e _ h => by rw [show (#[] : Array Nat).contains e.born = false by simp] at h; cases h⟩, fun h => by simpa using h.1⟩ ⟨upds_le (by simp), rfl, by simp, by simp⟩ ?_
    rintro ⟨seen, acc⟩ hI
    simp only at hI
    refine AW.seqRegionO [] ?_
    refine AOpsO.nextMap [4, 15, 16] (m := 67) rfl (by conv => lhs; simp) trivial (by conv => lhs; simp) (by conv => lhs; simp) hborn.1 (Nat.le_refl _) rfl ?_
    intro more e hno hyes
    refine AOpsO.same (by conv => lhs; simp) ?_
    refine AOpsO.run [[4, 15, 17]] ?_
    refine op1 tok ?_
    refine runEnd ?_
    refine AW.seq ?_
    refine cnd ?_ ?_
    · intro h17
      try simp at h17
      subst h17
      obtain ⟨he, hse⟩ := hyes rfl
      obtain ⟨k, ba, hk, hkey, hba, hkl⟩ := key_of hkeys he
      have hM := MayName_ev (G := G) k
      simp only [if_true]
      have hE : ((acc && mayNameM k) = true ↔ cats.Nodup ∧ ∀ x ∈ es.toList, (seen.push e.born).contains x.born = true → KeyOK x) := by
        rw [Bool.and_eq_true, hI]
        have hek : KeyOK e ↔ mayNameM k = true := ⟨fun h => by have := h ba hkey; rwa [hba] at this, fun h ba' hb => by rw [hkey] at hb; cases hb; rw [hba]; exact h⟩
        constructor
        · rintro ⟨⟨h1, h2⟩, h3⟩
          refine ⟨h1, fun x hx hs => ?_⟩
          rcases (seen_push hborn.2 he hx).1 hs with h | rfl
          · exact h2 x hx h
          · exact hek.2 h3
        · rintro ⟨h1, h2⟩
          exact ⟨⟨h1, fun x hx hs => h2 x hx ((seen_push hborn.2 he hx).2 (.inl hs))⟩, hek.1 (h2 e he ((seen_push hborn.2 he he).2 (.inr rfl)))⟩
      refine AW.skip ?_
      refine AW.block ?_
      refine AW.seqRegionO [] ?_
      refine AOpsO.stepK [4, 15, 18] (y_entryMap (m := 67) rfl (by conv => lhs; simp) trivial (by conv => lhs; simp) (by conv => lhs; simp) he hborn.2 ⟨hkey, hba, hkl⟩) (by conv => lhs; simp) rfl ?_
      refine AOpsO.run [[], [4, 5, 15]] ?_
      iterate 2 refine op1 tok ?_
      refine runEnd ?_
      refine rgz [.nilp, .bool (mayNameM k)] [[], [], [], [15, 21, 23], [], [4, 15]] ?_
      iterate 2 refine op1 tok ?_ (hv := by first | with_reducible exact True.intro | (first | exact hM | simp [hM]; done) | omega | simp | (simp; omega) | (simp +contextual; omega))
      iterate 2 refine op2 tok ?_ (hv := by first | with_reducible exact True.intro | (first | exact hM | simp [hM]; done) | omega | simp | (simp; omega) | (simp +contextual; omega))
      iterate 2 refine op1 tok ?_ (hv := by first | with_reducible exact True.intro | (first | exact hM | simp [hM]; done) | omega | simp | (simp; omega) | (simp +contextual; omega))
      refine runEnd ?_
      exact ⟨(seen.push e.born, acc && mayNameM k), hE, left_less hborn.2 he hse, upds_le (by simp), rfl, by simp, by simp⟩
    · intro h17
      try simp at h17
      subst h17
      have hall := hno rfl
      have hfin : acc = (decide cats.Nodup && cats.all mayNameM) := by
        rw [Bool.eq_iff_iff, hI, Bool.and_eq_true, decide_eq_true_eq]
        have hk := key_all hkeys
        have hm : (plK cats cats.length).all mayNameM = cats.all mayNameM := by
          rw [Bool.eq_iff_iff, List.all_eq_true, List.all_eq_true]
          have h := fun s => plK_mem cats s cats.length (Nat.le_refl _)
          simp only [List.take_length] at h
          exact ⟨fun g s hs => g s ((h s).2 hs), fun g s hs => g s ((h s).1 hs)⟩
        rw [← hm, ← hk]
        exact ⟨fun ⟨h1, h2⟩ => ⟨h1, fun e he => h2 e he (hall e he)⟩, fun ⟨h1, h2⟩ => ⟨h1, fun e he _ => h2 e he⟩⟩
      rw [← hfin]
      simp only [Bool.false_eq_true, if_false]
      refine AW.exit ?_
      simp
      refine AW.seq ?_
      refine rgn [] [[], [26]] ?_
      iterate 2 refine op1 tok ?_
      refine runEnd ?_
      refine cnd ?_ ?_
      · intro h26
        try simp at h26
        subst h26
        refine rgn [] [[]] ?_
        refine op1 tok ?_
        refine runEnd ?_
        exact AW.ret ⟨.inr rfl, _, _, by (conv => lhs; simp), trivial, by simp⟩
      · intro h26
        try simp at h26
        subst h26
        refine AW.skip ?_
        refine rgn [] [[]] ?_
        refine op1 tok ?_
        refine runEnd ?_
        exact AW.ret ⟨.inr rfl, _, _, by (conv => lhs; simp), trivial, by simp⟩
@[simp] theorem rangeV_no (id n : Nat) : V.noRefL id ((List.range n).map fun i : Nat => V.p (.int .i64 i)) = true := by
  have key : ∀ l : List Nat, V.noRefL id (l.map fun i : Nat => V.p (.int .i64 i)) = true := by
    intro l
    induction l with
    | nil => rfl
    | cons a l ih => simp only [List.map_cons, V.noRefL, Bool.and_eq_true]; exact ⟨rfl, ih⟩
  exact key _
theorem drop_get {l : List (List UInt8)} {k : Nat} {w : List UInt8} (h : l[k]? = some w) : l.drop k = w :: l.drop (k + 1) := by
  obtain ⟨hk, rfl⟩ := List.getElem?_eq_some_iff.1 h
  exact List.drop_eq_getElem_cons hk
theorem shl_bit {e : Nat} (h : e ≤ 64) : IntKind.u64.wrap (2 ^ min e IntKind.u64.bits) = bitM e := by
  have hm : min e IntKind.u64.bits = e := Nat.min_eq_left (by simpa [IntKind.bits] using h)
  rw [hm]
  unfold bitM
  simp only [IntKind.wrap, IntKind.bits, IntKind.signed]
  simp
theorem catsMask_ev (cats : List (List UInt8)) (s : List UInt8) (hn : cats.Nodup) (h64 : cats.length ≤ 64) (hs : s.length ≤ 1000000000) : AFn Tryz.prog G 71 [.sl 1 (cats.map PD.str), .str s] (.tup [.int .u64 (maskT cats s).1, .int .i64 (maskT cats s).2]) := by
  refine AFn.introU tok Tryz.func71 (by kernel_rfl) rfl rfl ?_
  simp only [Tryz.f71, enumA, List.map_cons, List.map_nil]
  have hpl := places_ax (G := G) cats (by omega)
  obtain ⟨hk1, hk2⟩ := plK_of cats hn _ (Nat.le_refl _)
  rw [hk1, hk2, List.take_length] at hpl
  have hsp := Split_ar (G := G) s 32 hs
  unfold maskT
  have hwl : (splitB 32 s).length ≤ 1000000001 := by rw [splitB_len]; have : s.count 32 ≤ s.length := List.count_le_length; omega
  generalize splitB 32 s = ws at *
  have hin : ∀ (w : List UInt8) (i : Nat), cats[i]? = some w → ∃ a : Nat, (List.range cats.length)[i]? = some a ∧ (a : Int) = ((if w ∈ cats then cats.idxOf w else 0 : Nat) : Int) := fun w i hi => by
    have hil := (List.getElem?_eq_some_iff.1 hi).1
    rw [if_pos (List.mem_of_getElem? hi), idx_nodup hn hi]
    exact ⟨i, by simp [hil], rfl⟩
  refine rgn [] [[], [0, 1]] ?_
  iterate 2 refine op1 tok ?_
  refine runEnd ?_
  refine rgn [] [[]] ?_
  refine op1 tok ?_
  refine runOff ?_
  refine AOpsO.stepK [1, 15] (y_cx rfl hpl (by simp)) (by conv => lhs; simp) rfl ?_
  refine AOpsO.run [[], [], [], [], [1, 6]] ?_
  iterate 5 refine op1 tok ?_
  refine runEnd ?_
  refine rgn [] [[]] ?_
  refine op1 tok ?_
  refine runEnd ?_
  refine AW.seq ?_
  refine rgn [.nilf, .sl 1 (ws.map PD.str), .clo 9 []] [[], [], [], [6, 8, 19, 20, 21]] ?_
  iterate 4 refine op1 tok ?_ (hv := by first | with_reducible exact True.intro | (first | exact hsp | (simp; exact hsp); done) | omega | simp | (simp; omega) | (simp +contextual; omega))
  refine runEnd ?_
  refine AW.block ?_
  refine AW.loop (α := Nat × Int) (fun a => a.1 ≤ ws.length ∧ maskG cats ws 0 = maskG cats (ws.drop a.1) a.2) (fun a => ⟨upds 42 [(6, .ms 67), (8, .p (.int .u64 a.2)), (19, .ms 19), (20, .p (.int .i64 ws.length)), (21, .p (.int .i64 a.1))], [], [(19, .row 9 1 (ws.map PD.str)), (67, .mp cats ((List.range cats.length).map fun i : Nat => V.p (.int .i64 i)))], 0⟩) (fun a => ws.length - a.1) ((0, 0)) ⟨by simp only []; omega, rfl⟩ ⟨upds_le (by simp), rfl, by simp, by simp⟩ ?_
  rintro ⟨k, m⟩ ⟨hk, hq⟩
  simp only at hk hq
  refine rgn [] [[]] ?_
  refine op1 tok ?_
  refine runEnd ?_
  refine AW.seq ?_
  refine cnd ?_ ?_
  · intro h22
    try simp at h22
    obtain ⟨w, hw⟩ : ∃ w, ws[k]? = some w := ⟨ws[k], by simp [h22]⟩
    rw [drop_get hw] at hq
    simp only [maskG] at hq
    have hinw := hin w
    have hno : w ∉ cats → (if w ∈ cats then cats.idxOf w else 0 : Nat) = 0 := fun h => if_neg h
    have hlt : (if w ∈ cats then cats.idxOf w else 0 : Nat) ≤ 64 := by
      split
      · rename_i h; have := List.idxOf_lt_length_of_mem h; omega
      · omega
    have hyes : w ∈ cats → (if w ∈ cats then cats.idxOf w else 0 : Nat) = cats.idxOf w := fun h => if_pos h
    generalize (if w ∈ cats then cats.idxOf w else 0 : Nat) = e at hinw hno hlt hyes
    refine AW.skip ?_
    refine AW.seq ?_
    refine AW.block ?_
    refine rgn [.str w] [[], [], [6, 8, 10, 19, 20, 21]] ?_
    iterate 3 refine op1 tok ?_ (hv := by first | with_reducible exact True.intro | (simp [hw]; done) | omega | simp | (simp; omega) | (simp +contextual; omega))
    refine runEnd ?_
    refine rgn [.int .i64 e] [[], [], [], [], [], [6, 8, 10, 19, 20, 21, 29, 30], [], [6, 8, 10, 11, 12, 19, 20, 21]] ?_
    iterate 8 refine op1 tok ?_ (hv := by first | with_reducible exact True.intro | (exact ⟨hinw, fun h => by rw [hno h]; rfl⟩; done) | omega | simp | (simp; omega) | (simp +contextual; omega))
    refine runEnd ?_
    refine AW.block ?_
    refine rgn [] [[], [6, 8, 10, 11, 19, 20, 21, 31]] ?_
    iterate 2 refine op1 tok ?_
    refine runEnd ?_
    refine cnd ?_ ?_
    · intro h31
      try simp at h31
      rw [if_pos h31, ← hyes h31] at hq
      have hbit := shl_bit hlt
      refine rgz [] [[], [], [], [6, 19, 20, 21, 36], [6, 8, 19, 20, 21]] ?_
      iterate 5 refine op1 tok ?_
      refine runEnd ?_
      refine rgz [] [[], [6, 8, 19, 20, 21]] ?_
      iterate 2 refine op1 tok ?_
      refine runEnd ?_
      exact ⟨(k + 1, orM m (bitM e)), ⟨by simp only []; omega, hq⟩, by simp only []; omega, upds_le (by simp [hbit, or_wrap]), rfl, by simp [hbit, or_wrap], by simp [hbit, or_wrap]⟩
    · intro h31
      try simp at h31
      rw [if_neg h31] at hq
      refine rgn [] [[], [], [6, 8, 19, 20, 21, 37]] ?_
      iterate 3 refine op1 tok ?_
      refine runEnd ?_
      refine cnd ?_ ?_
      · intro h37
        try simp at h37
        rw [if_neg h37] at hq
        rw [hq]
        refine rgn [] [[], []] ?_
        iterate 2 refine op1 tok ?_
        refine runEnd ?_
        exact AW.ret ⟨.inr rfl, _, _, by (conv => lhs; simp), trivial, by simp⟩
      · intro h37
        try simp at h37
        rw [if_pos h37] at hq
        refine AW.skip ?_
        refine rgz [] [[], [6, 8, 19, 20, 21]] ?_
        iterate 2 refine op1 tok ?_
        refine runEnd ?_
        exact ⟨(k + 1, m), ⟨by simp only []; omega, hq⟩, by simp only []; omega, upds_le (by simp), rfl, by simp, by simp⟩
  · intro h22
    try simp at h22
    rw [List.drop_of_length_le (by omega)] at hq
    rw [hq]
    simp only [maskG]
    refine AW.exit ?_
    simp
    refine rgn [] [[], [], [4, 5]] ?_
    iterate 3 refine op1 tok ?_
    refine runEnd ?_
    exact AW.ret ⟨.inr rfl, _, _, by (conv => lhs; simp), trivial, by simp⟩
theorem and_bit {m : Int} {k : Nat} (h : k < 64) : andM m (bitM k) = 0 ↔ hasM m k = false := by
  unfold andM hasM
  have hb : natM (bitM k) = 2 ^ k := by
    unfold bitM
    rw [Nat.mod_eq_of_lt (Nat.pow_lt_pow_right (by decide) h), natM_cast (Nat.pow_lt_pow_right (by decide) h)]
  rw [hb]
  constructor
  · intro h0
    have h1 : natM m &&& 2 ^ k = 0 := by omega
    have h2 : (natM m &&& 2 ^ k).testBit k = false := by rw [h1]; simp
    rw [Nat.testBit_and, Nat.testBit_two_pow_self] at h2
    simpa using h2
  · intro h0
    have h1 : natM m &&& 2 ^ k = 0 := by
      apply Nat.eq_of_testBit_eq
      intro i
      rw [Nat.testBit_and, Nat.testBit_two_pow, Nat.zero_testBit]
      by_cases e : k = i
      · subst e; rw [h0]; rfl
      · simp [e]
    rw [h1]; rfl
theorem pick_snoc (m : Int) : ∀ (cats : List (List UInt8)) (i k : Nat) (c : List UInt8), cats[k]? = some c → pickC (cats.take (k + 1)) i m = pickC (cats.take k) i m ++ (if hasM m (i + k) = true then [c] else [])
  | [], i, k, c, h => by simp at h
  | d :: cats, i, 0, c, h => by simp at h; subst h; simp [pickC]
  | d :: cats, i, k + 1, c, h => by
    simp at h
    have := pick_snoc m cats (i + 1) k c h
    simp only [List.take_succ_cons, pickC, this, List.append_assoc]
    rw [show i + 1 + k = i + (k + 1) by omega]
theorem pick_le (m : Int) : ∀ (cats : List (List UInt8)) (i : Nat), (pickC cats i m).length ≤ cats.length
  | [], i => by simp [pickC]
  | c :: cats, i => by
    have := pick_le m cats (i + 1)
    simp only [pickC, List.length_append, List.length_cons]
    split <;> simp <;> omega
theorem pick_sub {m : Int} {x : List UInt8} : ∀ {cats : List (List UInt8)} {i : Nat}, x ∈ pickC cats i m → x ∈ cats
  | [], i, h => by simp [pickC] at h
  | c :: cats, i, h => by
    simp only [pickC, List.mem_append] at h
    rcases h with h | h
    · split at h
      · simp at h; simp [h]
      · cases h
    · exact List.mem_cons.2 (.inr (pick_sub h))
theorem joinN_le (b : Nat) : ∀ (l : List (List UInt8)), (∀ x ∈ l, x.length ≤ b) → (Lib.join l [32]).length ≤ l.length * (b + 1)
  | [], _ => by simp [Lib.join, List.intercalate]
  | [x], h => by have := h x (by simp); simp [Lib.join, List.intercalate]; omega
  | x :: y :: r, h => by
    have ih := joinN_le b (y :: r) fun z hz => h z (by simp [hz])
    have hx := h x (by simp)
    have e : Lib.join (x :: y :: r) [32] = x ++ [32] ++ Lib.join (y :: r) [32] := by simp [Lib.join, List.intercalate, List.intersperse]
    rw [e]
    simp only [List.length_append, List.length_cons, List.length_nil, Nat.add_mul] at ih ⊢
    omega
theorem catsNames_ev (cats : List (List UInt8)) (m : Int) (h64 : cats.length ≤ 64) (hc : ∀ c ∈ cats, c.length ≤ 1000) : AFn Tryz.prog G 49 [.sl 1 (cats.map PD.str), .int .u64 m] (.str (namesT cats m)) := by
  refine AFn.introU tok Tryz.func49 (by kernel_rfl) rfl rfl ?_
  simp only [Tryz.f49, enumA, List.map_cons, List.map_nil]
  refine rgn [] [[0, 1]] ?_
  refine op1 tok ?_
  refine runEnd ?_
  refine rgn [] [[]] ?_
  refine op1 tok ?_
  refine runEnd ?_
  refine AW.seq ?_
  refine rgn [] [[], [], [1, 5, 8, 9, 10]] ?_
  iterate 3 refine op1 tok ?_
  refine runEnd ?_
  refine AW.block ?_
  refine AW.beginE 5 50 9 1 (by simp) (by simp) (by conv => lhs; simp) ?_
  refine AW.loop (α := Nat) (fun k => k ≤ cats.length) (fun k => ⟨upds 27 [(1, .p (.int .u64 m)), (5, .ms 50), (8, .p (.sl 1 (cats.map PD.str))), (9, .p (.int .i64 cats.length)), (10, .p (.int .i64 k))], [], [(50, .row 9 1 ((pickC (cats.take k) 0 m).map PD.str))], 0⟩) (fun k => cats.length - k) (0) (by omega) ⟨upds_le (by simp), rfl, by simp [pickC], by simp⟩ ?_
  rintro k hk
  refine rgn [] [[]] ?_
  refine op1 tok ?_
  refine runEnd ?_
  refine AW.seq ?_
  refine cnd ?_ ?_
  · intro h11
    try simp at h11
    obtain ⟨c, hcs⟩ : ∃ c, cats[k]? = some c := ⟨cats[k], by simp [h11]⟩
    have hsn := pick_snoc m cats 0 k c hcs
    have hab := and_bit (m := m) (k := k) (by omega)
    have hle := pick_le m (cats.take k) 0
    have hbit := shl_bit (e := k) (by omega)
    rw [Nat.zero_add] at hsn
    refine AW.skip ?_
    refine AW.seq ?_
    refine AW.block ?_
    refine rgn [.str c] [[], [], [], [], [1, 5, 6, 7, 8, 9, 10]] ?_
    iterate 5 refine op1 tok ?_ (hv := by first | with_reducible exact True.intro | (simp [hcs]; done) | omega | simp | (simp; omega) | (simp +contextual; omega))
    refine runEnd ?_
    refine rgn [] [[], [], [], [1, 5, 7, 8, 9, 10, 18], [1, 5, 7, 8, 9, 10, 19]] ?_
    iterate 5 refine op1 tok ?_ (h := by intro C; conv => lhs; simp [hbit, and_wrap])
    refine runEnd ?_
    refine cnd ?_ ?_
    · intro h19
      try simp at h19
      have hh : hasM m k = true := by cases h : hasM m k with
        | true => rfl
        | false => exact absurd (hab.2 h) h19
      refine rgz [.str c] [[], [], [], [1, 8, 9, 10, 23], [1, 5, 8, 9, 10]] ?_
      iterate 5 refine op1 tok ?_ (hv := by first | with_reducible exact True.intro | (first | (simp at hle ⊢; omega) | simp; done) | omega | simp | (simp; omega) | (simp +contextual; omega))
      refine runEnd ?_
      refine rgz [] [[], [1, 5, 8, 9, 10]] ?_
      iterate 2 refine op1 tok ?_
      refine runEnd ?_
      exact ⟨k + 1, by omega, by omega, upds_le (by simp [hsn, hh]), rfl, by simp [hsn, hh], by simp [hsn, hh]⟩
    · intro h19
      try simp at h19
      have hh := hab.1 h19
      refine AW.skip ?_
      refine rgz [] [[], [1, 5, 8, 9, 10]] ?_
      iterate 2 refine op1 tok ?_
      refine runEnd ?_
      exact ⟨k + 1, by omega, by omega, upds_le (by simp [hsn, hh]), rfl, by simp [hsn, hh], by simp [hsn, hh]⟩
  · intro h11
    try simp at h11
    have hpl := pick_le m cats 0
    have hjl := joinN_le 1000 (pickC cats 0 m) fun x hx => hc x (pick_sub hx)
    have hj := Join_ev (G := G) (pickC cats 0 m) [32] (by omega) (by have : (pickC cats 0 m).length * 1001 ≤ 64 * 1001 := Nat.mul_le_mul_right _ (by omega); omega)
    rw [List.take_of_length_le h11]
    refine AW.exit ?_
    simp
    refine rgn [.nilp, .str (namesT cats m)] [[], [], [4]] ?_
    iterate 3 refine op1 tok ?_ (hv := by first | with_reducible exact True.intro | (first | exact hj | simpa [namesT] using hj; done) | omega | simp | (simp; omega) | (simp +contextual; omega))
    refine runEnd ?_
    exact AW.ret ⟨.inr rfl, _, _, by (conv => lhs; simp), trivial, by simp⟩
end Go.Proofs.YtdjjmppnnkkloaaGreatDoor
namespace Go.Proofs.YtdjjmppnnkkloaaGreatDoor
open Sy Go
set_option maxRecDepth 100000
set_option linter.unusedSimpArgs false
set_option linter.unusedVariables false
structure Step where
  kind : Int
  key : List UInt8
  n : Int
  deriving DecidableEq
@[simp] def Step.enc (t : Step) : PD := .agg [.int .i64 t.kind, .str t.key, .int .i64 t.n]
variable {G : Glob}

@[simp] def keyM (s : List UInt8) : Step := ⟨1, s, 0⟩
@[simp] def atM (n : Int) : Step := ⟨2, [], n⟩
def ledM (t x : Step) : Bool := if t.kind = 3 then x.kind = 1 else if t.kind = 4 then x.kind = 2 else t.kind = x.kind ∧ t.key = x.key ∧ t.n = x.n
theorem leads_ev (t x : Step) : AFn Tryz.prog G 96 [t.enc, x.enc] (.bool (ledM t x)) := by
  refine AFn.intro tok Tryz.func96 (by kernel_rfl) rfl ?_
  simp only [Tryz.f96, St.start]
  refine AW.seqRun tok [] (by intro C; conv => lhs; simp) (by simp) ?_ -- r0 {}
  refine AW.seq ?_
  refine AW.seqRun tok [] (by intro C; conv => lhs; simp) trivial ?_ -- r1 {}
  refine AW.block ?_
  refine AW.seqRun tok [] (by intro C; conv => lhs; simp) trivial ?_ -- r2 {}
  refine AW.cond (c := .tmp 7) (by conv => lhs; simp) trivial ?_ ?_
  · intro h1
    simp at h1
    refine AW.seqRun tok [] (by intro C; conv => lhs; simp) trivial ?_ -- r3 {}
    exact AW.ret ⟨.inr rfl, _, _, by (conv => lhs; simp), trivial, by simp [ledM, h1]⟩
  · intro h1
    simp at h1
    refine AW.seqRun tok [] (by intro C; conv => lhs; simp) trivial ?_ -- r4 {}
    refine AW.cond (c := .tmp 12) (by conv => lhs; simp) trivial ?_ ?_
    · intro h2
      simp at h2
      refine AW.seqRun tok [] (by intro C; conv => lhs; simp) trivial ?_ -- r5 {}
      exact AW.ret ⟨.inr rfl, _, _, by (conv => lhs; simp), trivial, by simp [ledM, h1, h2]⟩
    · intro h2
      simp at h2
      refine AW.skip ?_
      refine AW.seqRun tok [] (by intro C; conv => lhs; simp) trivial ?_ -- r6 {}
      exact AW.ret ⟨.inr rfl, _, _, by (conv => lhs; simp), trivial, by simp [ledM, h1, h2]⟩

def few1 (t : Step) : Step := if t.key.length > 40 then { t with key := t.key.take 40 } else t
def fewM (l : List Step) : List Step := (l.take 12).map few1
def loopS (l : List Step) (k : Nat) (out : List Step) : St := ⟨[.p (.sl 3 (l.map Step.enc)), .dead, .dead, .ms 6, .p (.int .i64 k)] ++ List.replicate 29 .dead, [], [(6, .row 57 3 (out.map Step.enc))], 0⟩

def place1 (t : Step) : List Step := (if t.kind = 1 then [keyM t.key] else []) ++ (if t.kind = 2 ∧ 0 ≤ t.n then [atM t.n] else [])
def placeM (l : List Step) : List Step := (l.take 12).flatMap place1
def placeS (l : List Step) (k : Nat) (out : List Step) : St := ⟨[.p (.sl 3 (l.map Step.enc)), .dead, .dead, .ms 6, .p (.int .i64 k)] ++ List.replicate 40 .dead, [], [(6, .row 57 3 (out.map Step.enc))], 0⟩
end Go.Proofs.YtdjjmppnnkkloaaGreatDoor
namespace Go.Proofs.YtdjjmppnnkkloaaGreatDoor
open Sy Go
set_option maxRecDepth 100000
set_option linter.unusedSimpArgs false
set_option linter.unusedVariables false
variable {G : Glob}

theorem shortValid_ev (s : List UInt8) (hs : s.length ≤ 8) (ha : ∀ b ∈ s, b.toNat < 128) : AFn Tryz.prog G 83 [.str s] (.bool true) := by
  refine AFn.intro tok Tryz.func83 (by kernel_rfl) rfl ?_
  simp only [Tryz.f83, St.start]
  refine AW.seqRun tok [] (by intro C; conv => lhs; simp) trivial ?_ -- r0 {}
  refine AW.seq ?_
  refine AW.block ?_
  -- LOOP
  refine AW.loop (α := List UInt8) (fun r => r.length ≤ 8 ∧ ∀ b ∈ r, b.toNat < 128) (fun r => ⟨[.p (.str r), .dead, .p (.bool false)] ++ List.replicate 166 .dead, [], [], 0⟩) (fun r => r.length) s ⟨hs, ha⟩ ⟨by simp, rfl, by simp, by simp⟩ ?_
  rintro r ⟨hr, hra⟩
  refine AW.seq ?_
  refine AW.seqRun tok [] (by intro C; conv => lhs; simp) trivial ?_ -- r1 {}
  refine AW.cond (c := .tmp 9) (by conv => lhs; simp) trivial ?_ ?_
  · intro h1
    simp at h1
    obtain ⟨b, r, rfl⟩ : ∃ b r', r = b :: r' := by
      cases r with
      | nil => simp at h1
      | cons b r => exact ⟨b, r, rfl⟩
    have hb := hra b (by simp)
    simp at hr
    refine AW.skip ?_
    refine AW.block ?_
    refine AW.seqRun tok [.int .u8 b.toNat] (by intro C; conv => lhs; simp) (by simp) ?_ -- r2 {t11:sidx}
    refine AW.seq ?_
    refine AW.seqRun tok [] (by intro C; conv => lhs; simp) trivial ?_ -- r3 {}
    refine AW.cond (c := .tmp 13) (by conv => lhs; simp) trivial ?_ ?_
    · intro h2
      simp at h2
      refine AW.seqRun tok [] (by intro C; conv => lhs; simp) (by omega) ?_ -- r4 {}
      refine AW.seq ?_
      refine AW.seqRun tok [.tup [.str r], .int .u64 0] (by intro C; conv => lhs; simp) (by omega) ?_ -- r5 {t21:CALL call f49(t20) args,res}
      refine AW.cond (c := .tmp 24) (by conv => lhs; simp) trivial ?_ ?_
      · intro h3
        simp at h3
        omega
      · intro h3
        refine AW.skip ?_
        refine AW.exit ?_ -- exit 1
        simp
        exact ⟨r, ⟨by omega, fun b hb => hra b (by simp [hb])⟩, by simp, by simp, rfl, by simp, by simp⟩ -- END OF ROUND
    · intro h2
      simp at h2
      omega
  · intro h1
    simp at h1
    subst h1
    refine AW.exit ?_ -- exit 0
    simp
    refine AW.seqRun tok [] (by intro C; conv => lhs; simp) trivial ?_
    exact AW.ret ⟨.inr rfl, _, _, by (conv => lhs; simp), trivial, by simp⟩
theorem shortValid2_ev (s : List UInt8) (hs : s.length ≤ 8) (ha : ∀ b ∈ s, b.toNat < 128) : AFn Tryz.prog G 46 [.str s] (.bool true) := by
  refine AFn.intro tok Tryz.func46 (by kernel_rfl) rfl ?_
  simp only [Tryz.f46, St.start]
  refine AW.seqRun tok [] (by intro C; conv => lhs; simp) trivial ?_ -- r0 {}
  refine AW.seqRun tok [.tup [.str s], .bool true] (by intro C; conv => lhs; simp) (by simp [shortValid_ev s hs ha]) ?_
  exact AW.ret ⟨.inr rfl, _, _, by (conv => lhs; simp), trivial, by simp⟩

def stepM (t : Step) (v : Bool) : Bool :=
  if t.kind = 1 then decide (t.key.length ≤ 24) && v && decide (t.n = 0)
  else if t.kind = 2 then decide (0 ≤ t.n) && decide (t.n ≤ 9999) && decide (t.key = [])
  else if 3 ≤ t.kind ∧ t.kind ≤ 5 then decide (t.key = []) && decide (t.n = 0)
  else false

theorem step_ev (t : Step) (v : Bool) (hv : t.kind = 1 → t.key.length ≤ 24 → AFn Tryz.prog G 46 [.str t.key] (.bool v)) : AFn Tryz.prog G 105 [t.enc] (.bool (stepM t v)) := by
  refine AFn.intro tok Tryz.func105 (by kernel_rfl) rfl ?_
  simp only [Tryz.f105, St.start]
  refine AW.seqRun tok [] (by intro C; conv => lhs; simp) (by simp) ?_ -- r0 {}
  refine AW.seqRun tok [] (by intro C; conv => lhs; simp) (by simp) ?_ -- r1 {}
  refine AW.seq ?_
  refine AW.seqRun tok [] (by intro C; conv => lhs; simp) trivial ?_ -- r2 {}
  refine AW.block ?_
  refine AW.seqRun tok [] (by intro C; conv => lhs; simp) trivial ?_ -- r4 {}
  refine AW.cond (c := .tmp 7) (by conv => lhs; simp) trivial ?_ ?_
  · intro h1
    simp at h1
    refine AW.seq ?_
    refine AW.seqRun tok [.tup [.str t.key], .bool v] (by intro C; conv => lhs; simp) (by exact fun h => ⟨h, hv h1 (by omega)⟩) ?_ -- r5 {t16:CALL call f29(t15) args,res}
    refine AW.cond (c := .tmp 18) (by conv => lhs; simp) trivial ?_ ?_
    · intro h2
      simp at h2
      refine AW.seqRun tok [] (by intro C; conv => lhs; simp) trivial ?_ -- r6 {}
      exact AW.ret ⟨.inr rfl, _, _, by (conv => lhs; simp), trivial, by simp [stepM, h1]; exact fun a b => h2.elim (fun h => by omega) fun h => by rw [b] at h; cases h⟩
    · intro h2
      simp at h2
      refine AW.skip ?_
      refine AW.run tok [] (by intro C; conv => lhs; simp) (by simp) ?_ -- r7 {}
      refine AW.seqRun tok [] (by intro C; conv => lhs; simp) (by simp) ?_ -- r15 {}
      exact AW.ret ⟨.inr rfl, _, _, by (conv => lhs; simp), trivial, by simp [stepM, h1, h2] <;> omega⟩
  · intro h1
    simp at h1
    refine AW.seqRun tok [] (by intro C; conv => lhs; simp) trivial ?_ -- r8 {}
    refine AW.cond (c := .tmp 20) (by conv => lhs; simp) trivial ?_ ?_
    · intro h2
      simp at h2
      refine AW.seq ?_
      refine AW.seqRun tok [] (by intro C; conv => lhs; simp) (by simp +contextual) ?_ -- r9 {}
      refine AW.cond (c := .tmp 29) (by conv => lhs; simp) trivial ?_ ?_
      · intro h3
        simp at h3
        refine AW.seqRun tok [] (by intro C; conv => lhs; simp) trivial ?_ -- r10 {}
        exact AW.ret ⟨.inr rfl, _, _, by (conv => lhs; simp), trivial, by simp [stepM, h2] <;> omega⟩
      · intro h3
        simp at h3
        refine AW.skip ?_
        refine AW.run tok [] (by intro C; conv => lhs; simp) (by simp) ?_ -- r11 {}
        refine AW.seqRun tok [] (by intro C; conv => lhs; simp) (by simp) ?_ -- r15 {}
        exact AW.ret ⟨.inr rfl, _, _, by (conv => lhs; simp), trivial, by simp [stepM, h2, h3] <;> omega⟩
    · intro h2
      simp at h2
      refine AW.seq ?_
      refine AW.seqRun tok [] (by intro C; conv => lhs; simp) trivial ?_ -- r12 {}
      refine AW.cond (c := .tmp 31) (by conv => lhs; simp) trivial ?_ ?_
      · intro h3
        simp at h3
        refine AW.skip ?_
        refine AW.cond (c := .tmp 31) (by conv => lhs; simp) trivial ?_ ?_
        · intro h4
          refine AW.skip ?_
          refine AW.seqRun tok [] (by intro C; conv => lhs; simp) (by simp) ?_ -- r15 {}
          exact AW.ret ⟨.inr rfl, _, _, by (conv => lhs; simp), trivial, by simp [stepM, h3]⟩
        · intro h4
          simp [h3] at h4
      · intro h3
        simp at h3
        refine AW.seqRun tok [] (by intro C; conv => lhs; simp) trivial ?_ -- r13 {}
        refine AW.cond (c := .tmp 31) (by conv => lhs; simp) trivial ?_ ?_
        · intro h4
          simp at h4
          refine AW.skip ?_
          refine AW.cond (c := .tmp 31) (by conv => lhs; simp) trivial ?_ ?_
          · intro h5
            refine AW.skip ?_
            refine AW.seqRun tok [] (by intro C; conv => lhs; simp) (by simp) ?_ -- r15 {}
            exact AW.ret ⟨.inr rfl, _, _, by (conv => lhs; simp), trivial, by simp [stepM, h4]⟩
          · intro h5
            simp [h4] at h5
        · intro h4
          simp at h4
          refine AW.run tok [] (by intro C; conv => lhs; simp) trivial ?_ -- r14 {}
          refine AW.cond (c := .tmp 31) (by conv => lhs; simp) trivial ?_ ?_
          · intro h5
            simp at h5
            refine AW.skip ?_
            refine AW.seqRun tok [] (by intro C; conv => lhs; simp) (by simp) ?_ -- r15 {}
            exact AW.ret ⟨.inr rfl, _, _, by (conv => lhs; simp), trivial, by simp [stepM, h5]⟩
          · intro h5
            simp at h5
            refine AW.seqRun tok [] (by intro C; conv => lhs; simp) trivial ?_ -- r3 {}
            exact AW.ret ⟨.inr rfl, _, _, by (conv => lhs; simp), trivial, by simp [stepM, h1, h2, show ¬ (3 ≤ t.kind ∧ t.kind ≤ 5) by omega]⟩

/-- A step's text, where no key is quoted, and no number written. -/
theorem written_ev (t : Step) (h1 : t.kind = 1 → mayNameM t.key = true) (h2 : t.kind ≠ 2) (hl : t.key.length ≤ 100) :
    AFn Tryz.prog G 85 [t.enc] (.str (if t.kind = 1 then 46 :: t.key else if t.kind = 3 then [46, 42] else if t.kind = 4 then [91, 42, 93] else [42, 42])) := by
  refine AFn.intro tok Tryz.func85 (by kernel_rfl) rfl ?_
  simp only [Tryz.f85, St.start]
  have hM := MayName_ev (G := G) t.key
  refine AW.seqRun tok [] (by intro C; conv => lhs; simp) (by simp) ?_ -- r0 {}
  refine AW.seq ?_
  refine AW.block ?_
  refine AW.seqRun tok [.tup [.str t.key], .bool (mayNameM t.key)] (by intro C; conv => lhs; simp) (by simp +contextual [hM]) ?_ -- r1 {t10:CALL call f33(t9) args,res}
  refine AW.cond (c := .tmp 3) (by conv => lhs; simp) trivial ?_ ?_
  · intro h3
    simp at h3
    refine AW.seqRun tok [] (by intro C; conv => lhs; simp) (by omega) ?_ -- r2 {}
    exact AW.ret ⟨.inr rfl, _, _, by (conv => lhs; simp), trivial, by simp [h3]⟩
  · intro h3
    have h3' : t.kind ≠ 1 := fun h => by simp [h, h1 h] at h3
    refine AW.seqRun tok [] (by intro C; conv => lhs; simp) trivial ?_ -- r3
    refine AW.cond (c := .tmp 15) (by conv => lhs; simp) trivial ?_ ?_
    · intro h4; simp [h3'] at h4
    · intro _
      refine AW.seqRun tok [] (by intro C; conv => lhs; simp) trivial ?_ -- r5
      refine AW.cond (c := .tmp 24) (by conv => lhs; simp) trivial ?_ ?_
      · intro h4; simp [h2] at h4
      · intro _
        refine AW.seqRun tok [] (by intro C; conv => lhs; simp) trivial ?_ -- r7
        refine AW.cond (c := .tmp 33) (by conv => lhs; simp) trivial ?_ ?_
        · intro h5
          simp at h5
          refine AW.seqRun tok [] (by intro C; conv => lhs; simp) trivial ?_ -- r8
          exact AW.ret ⟨.inr rfl, _, _, by (conv => lhs; simp), trivial, by simp [h5]⟩
        · intro h5
          simp at h5
          refine AW.seqRun tok [] (by intro C; conv => lhs; simp) trivial ?_ -- r9
          refine AW.cond (c := .tmp 37) (by conv => lhs; simp) trivial ?_ ?_
          · intro h6
            simp at h6
            refine AW.seqRun tok [] (by intro C; conv => lhs; simp) trivial ?_ -- r10
            exact AW.ret ⟨.inr rfl, _, _, by (conv => lhs; simp), trivial, by simp [h6]⟩
          · intro h6
            simp at h6
            refine AW.skip ?_
            refine AW.seqRun tok [] (by intro C; conv => lhs; simp) trivial ?_ -- r11
            exact AW.ret ⟨.inr rfl, _, _, by (conv => lhs; simp), trivial, by simp [h3', h5, h6]⟩
end Go.Proofs.YtdjjmppnnkkloaaGreatDoor
namespace Go.Proofs.YtdjjmppnnkkloaaGreatDoor
open Sy Go
set_option maxRecDepth 100000
set_option linter.unusedSimpArgs false
set_option linter.unusedVariables false
variable {G : Glob}

def nameLen : List UInt8 → List UInt8
  | [] => []
  | c :: r => if mayNameM [97, c] then c :: nameLen r else []
def guessM (s : List UInt8) : Step :=
  if hasPre s [42, 42] then ⟨5, [], 0⟩ else if hasPre s [46, 42] then ⟨3, [], 0⟩ else if hasPre s [91, 42] then ⟨4, [], 0⟩
  else if hasPre s [46] then ⟨1, nameLen s.tail, 0⟩ else ⟨0, [], 0⟩
theorem hasPre_mono (s : List UInt8) (a b : UInt8) (h : hasPre s [a, b] = true) : hasPre s [a] = true := by
  simp only [hasPre, Bool.and_eq_true, decide_eq_true_eq, List.length_cons, List.length_nil] at h ⊢
  obtain ⟨h1, h2⟩ := h
  refine ⟨by omega, ?_⟩
  have := congrArg (List.take 1) h2
  simpa [List.take_take] using this
theorem nameLen_le : ∀ r : List UInt8, (nameLen r).length ≤ r.length
  | [] => by simp [nameLen]
  | c :: r => by
    have := nameLen_le r
    simp only [nameLen]; split <;> simp <;> omega
theorem nameLen_take : ∀ r : List UInt8, r.take (nameLen r).length = nameLen r
  | [] => by simp [nameLen]
  | c :: r => by
    have := nameLen_take r
    simp only [nameLen]; split <;> simp [this]
theorem nameLen_go : ∀ (r : List UInt8) (n : Nat) (c : UInt8), n ≤ (nameLen r).length → r[n]? = some c → (mayNameM [97, c] = true ↔ n < (nameLen r).length)
  | [], n, c, h, hc => by simp at hc
  | d :: r, 0, c, h, hc => by
    simp at hc; subst hc
    simp only [nameLen]; split
    · rename_i hm; simp [hm]
    · rename_i hm; simp [hm]
  | d :: r, n + 1, c, h, hc => by
    simp at hc
    simp only [nameLen] at h ⊢
    split at h
    · rename_i hm
      rw [if_pos hm]
      have := nameLen_go r n c (by simpa using h) hc
      simpa using this
    · simp at h

theorem drop_take1 {l : List UInt8} {k : Nat} {x : UInt8} (h : l[k]? = some x) : (l.take (k + 1)).drop k = [x] := by
  have hk : (l.take k).length = k := by
    have := (List.getElem?_eq_some_iff.1 h).1
    simp; omega
  rw [List.take_add_one, h]
  exact List.drop_left' hk
theorem nameLen_key {r : List UInt8} {n : Nat} (b : UInt8) (h : n = (nameLen r).length) : List.drop 1 (List.take (n + 1) (b :: r)) = nameLen r := by
  subst h; simp [nameLen_take]

def gS (s : List UInt8) (n : Nat) : St := ⟨[.p (.str s), .dead, .ptr 2 0, .dead, .dead, .dead, .dead, .dead, .p (.int .i64 (n + 1))] ++ List.replicate 82 .dead, [], [(2, .vars 57 [.p (.int .i64 0), .p (.str []), .p (.int .i64 0)])], 0⟩
/-- The step that a text may begin with, where it is not a quoted key, nor a number. -/
theorem guess_ev (s : List UInt8) (hq : hasPre s [91] = true → hasPre s [91, 42] = true) : AFn Tryz.prog G 104 [.str s] (guessM s).enc := by
  refine AFn.intro tok Tryz.func104 (by kernel_rfl) rfl ?_
  simp only [Tryz.f104, St.start]
  refine AW.strFact (i := 0) rfl ?_
  intro hlen
  refine AW.seqRun tok [] (by intro C; conv => lhs; simp) (by simp) ?_ -- r0
  refine AW.seq ?_
  refine AW.block ?_
  refine AW.seqRun tok [.tup [.str s, .str [42, 42]], .bool (hasPre s [42, 42])] (by intro C; conv => lhs; simp) (by simp) ?_ -- r1
  refine AW.cond (c := .tmp 9) (by conv => lhs; simp) trivial ?_ ?_
  · intro h1
    refine AW.seqRun tok [] (by intro C; conv => lhs; simp) (by simp) ?_ -- r2
    exact AW.ret ⟨.inr rfl, _, _, by (conv => lhs; simp), trivial, by simp [guessM, h1]⟩
  · intro h1
    refine AW.seqRun tok [.tup [.str s, .str [46, 42]], .bool (hasPre s [46, 42])] (by intro C; conv => lhs; simp) (by simp) ?_ -- r3
    refine AW.cond (c := .tmp 13) (by conv => lhs; simp) trivial ?_ ?_
    · intro h2
      refine AW.seqRun tok [] (by intro C; conv => lhs; simp) (by simp) ?_ -- r4
      exact AW.ret ⟨.inr rfl, _, _, by (conv => lhs; simp), trivial, by simp [guessM, h1, h2]⟩
    · intro h2
      refine AW.seqRun tok [.tup [.str s, .str [91, 42]], .bool (hasPre s [91, 42])] (by intro C; conv => lhs; simp) (by simp) ?_ -- r5
      refine AW.cond (c := .tmp 17) (by conv => lhs; simp) trivial ?_ ?_
      · intro h3
        refine AW.seqRun tok [] (by intro C; conv => lhs; simp) (by simp) ?_ -- r6
        exact AW.ret ⟨.inr rfl, _, _, by (conv => lhs; simp), trivial, by simp [guessM, h1, h2, h3]⟩
      · intro h3
        have h91 : ¬ hasPre s [91] = true := fun h => by rw [hq h] at h3; cases h3
        refine AW.seqRun tok [.tup [.str s, .str [91, 34]], .bool (hasPre s [91, 34])] (by intro C; conv => lhs; simp) (by simp) ?_ -- r7
        refine AW.cond (c := .tmp 21) (by conv => lhs; simp) trivial ?_ ?_
        · intro h4; exact (h91 (hasPre_mono s _ _ h4)).elim
        · intro h4
          refine AW.seqRun tok [.tup [.str s, .str [91]], .bool (hasPre s [91])] (by intro C; conv => lhs; simp) (by simp) ?_ -- r10
          refine AW.cond (c := .tmp 33) (by conv => lhs; simp) trivial ?_ ?_
          · intro h5; exact (h91 h5).elim
          · intro h5
            refine AW.seqRun tok [.tup [.str s, .str [46]], .bool (hasPre s [46])] (by intro C; conv => lhs; simp) (by simp) ?_ -- r17
            refine AW.cond (c := .tmp 68) (by conv => lhs; simp) trivial ?_ ?_
            · intro h6
              obtain ⟨b, r, rfl⟩ : ∃ b r, s = b :: r := by
                cases s with
                | nil => simp [hasPre] at h6
                | cons b r => exact ⟨b, r, rfl⟩
              have hnl := nameLen_le r
              simp only [List.length_cons] at hlen
              refine AW.seqRun tok [] (by intro C; conv => lhs; simp) trivial ?_ -- r18
              refine AW.seq ?_
              refine AW.block ?_
              -- LOOP
              refine AW.loop (α := Nat) (fun n => n ≤ (nameLen r).length) (fun n => gS (b :: r) n) (fun n => r.length - n) 0 (by omega) ⟨by simp [gS], rfl, by simp [gS], by simp [gS]⟩ ?_
              intro n hn
              simp only [gS]
              refine AW.seq ?_
              by_cases hnr : n < r.length
              · obtain ⟨c, hc⟩ : ∃ c, r[n]? = some c := ⟨r[n], by simp [hnr]⟩
                have hgo := nameLen_go r n c hn hc
                have hM := MayName_ev (G := G) [97, c]
                have hsl := drop_take1 (l := b :: r) (k := n + 1) (x := c) (by simpa using hc)
                refine AW.seqRun tok [.tup [.str [97, c]], .bool (mayNameM [97, c])] (by intro C; conv => lhs; simp)
                  (by simp [hnr]; exact ⟨⟨by omega, by omega⟩, ⟨by omega, by omega, by omega⟩, by omega, by rw [show ((n : Int) + 1 + 1).toNat = n + 1 + 1 by omega]; exact hsl, hM⟩) ?_ -- r19
                refine AW.cond (c := .tmp 83) (by conv => lhs; simp) trivial ?_ ?_
                · intro h7
                  simp at h7
                  have h8 := hgo.1 h7.2
                  refine AW.skip ?_
                  refine AW.block ?_
                  refine AW.run tok [] (by intro C; conv => lhs; simp) (by omega) ?_ -- r20 {}
                  exact ⟨n + 1, by omega, by omega, by simp [gS], rfl, by simp [gS], by simp [gS]⟩ -- END OF ROUND
                · intro h7
                  simp [hnr] at h7
                  have h8 : n = (nameLen r).length := by
                    have : ¬ n < (nameLen r).length := fun h => by rw [hgo.2 h] at h7; cases h7
                    omega
                  refine AW.exit ?_ -- exit 3
                  simp
                  refine AW.seqRun tok [] (by intro C; conv => lhs; simp) (by omega) ?_ -- r21
                  exact AW.ret ⟨.inr rfl, _, _, by (conv => lhs; simp), trivial, by simp [guessM, h1, h2, h3, h6, nameLen_key b h8, nameLen_take, h8]⟩
              · have h8 : n = (nameLen r).length := by omega
                have h9 : n = r.length := by omega
                refine AW.seqRun tok [.tup [.str []], .bool false] (by intro C; conv => lhs; simp) (by simp [hnr]; omega) ?_ -- r19
                refine AW.cond (c := .tmp 83) (by conv => lhs; simp) trivial ?_ ?_
                · intro h7
                  simp at h7
                · intro h7
                  refine AW.exit ?_ -- exit 3
                  simp
                  refine AW.seqRun tok [] (by intro C; conv => lhs; simp) (by omega) ?_ -- r21
                  exact AW.ret ⟨.inr rfl, _, _, by (conv => lhs; simp), trivial, by simp [guessM, h1, h2, h3, h6, nameLen_key b h8, nameLen_take, h8]⟩
            · intro h6
              refine AW.skip ?_
              refine AW.seqRun tok [] (by intro C; conv => lhs; simp) (by simp) ?_ -- r22
              exact AW.ret ⟨.inr rfl, _, _, by (conv => lhs; simp), trivial, by simp [guessM, h1, h2, h3, h6]⟩
end Go.Proofs.YtdjjmppnnkkloaaGreatDoor
/-
  A PLAIN LAW: a text in quotes, written and read.
-/
namespace Go.Proofs.YtdjjmppnnkkloaaGreatDoor
open Go
open Go.Lib
set_option linter.unusedSimpArgs false
set_option linter.unusedVariables false

def hexD (n : Nat) : UInt8 := if n < 10 then UInt8.ofNat (48 + n) else UInt8.ofNat (87 + n)
/-- A byte, as it stands in quotes. -/
def qb (b : UInt8) : List UInt8 :=
  if b = 34 ∨ b = 92 then [92, b] else if b = 10 then [92, 110] else if b = 13 then [92, 114] else if b = 9 then [92, 116]
  else if b < 32 ∨ b = 127 then [92, 117, 48, 48, hexD (b.toNat / 16), hexD (b.toNat % 16)] else [b]
def qBody (s : List UInt8) : List UInt8 := s.flatMap qb
def quoteT (s : List UInt8) : List UInt8 := 34 :: (qBody s ++ [34])

def hexV (c : UInt8) : Option Nat := if 48 ≤ c ∧ c ≤ 57 then some (c.toNat - 48) else if 97 ≤ c ∧ c ≤ 102 then some (c.toNat - 87) else if 65 ≤ c ∧ c ≤ 70 then some (c.toNat - 55) else none
def hexN : List UInt8 → Nat → Option Nat
  | [], x => some x
  | c :: l, x => match hexV c with
    | none => none
    | some k => hexN l (16 * x + k)
def unitL (s : List UInt8) : Option Nat := if s.length < 6 ∨ s.take 2 ≠ [92, 117] then none else hexN ((s.drop 2).take 4) 0
def escT (c : UInt8) : Option Nat := if c = 34 then some 34 else if c = 92 then some 92 else if c = 47 then some 47 else if c = 98 then some 8 else if c = 102 then some 12 else if c = 110 then some 10 else if c = 114 then some 13 else if c = 116 then some 9 else none
def escU (u w : Option Nat) : Nat × Nat × Bool :=
  if u.isSome = false ∨ u.getD 0 / 1024 ≠ 54 then (u.getD 0, 6, u.isSome && decide (u.getD 0 / 1024 ≠ 55)) else (65536 + u.getD 0 % 1024 * 1024 + w.getD 0 % 1024, 12, w.isSome && decide (w.getD 0 / 1024 = 55))
/-- What stands behind a backslash: the rune, how many bytes, whether there is one. -/
def escG (s : List UInt8) : Nat × Nat × Bool := match s with
  | _ :: c :: _ => match escT c with
    | some v => (v, 2, true)
    | none => escU (unitL s) (unitL (s.drop 6))
  | _ => (0, 0, false)
def escL (s : List UInt8) : Option (Nat × Nat) := if (escG s).2.2 = true then some ((escG s).1, (escG s).2.1) else none
def unqG : Nat → List UInt8 → Nat → List UInt8 → List UInt8 × Nat × Int
  | 0, _, _, _ => ([], 0, 6)
  | f + 1, s, at', out => if s = [] then ([], 0, 6)
    else if (decodeL s).1 = 34 then (if 4096 < out.length then ([], 0, 3) else (out, at' + 1, 0))
    else if (decodeL s).1 < 32 ∨ ((decodeL s).1 = 65533 ∧ (decodeL s).2 = 1) then ([], 0, 6)
    else if (decodeL s).1 = 92 then (match escL s with
      | none => ([], 0, 6)
      | some (c, n) => unqG f (s.drop n) (at' + n) (out ++ encodeRune c))
    else unqG f (s.drop (decodeL s).2) (at' + (decodeL s).2) (out ++ encodeRune (decodeL s).1)
def unquoteT (s : List UInt8) : List UInt8 × Nat × Int := if s.head? = some 34 then unqG s.length (s.drop 1) 1 [] else ([], 0, 6)

theorem decodeL_lt {b : UInt8} {t : List UInt8} (h : b.toNat < 128) : decodeL (b :: t) = (b.toNat, 1) := by
  unfold decodeL
  rw [decode_at]
  have e : (⟨(b :: t).toArray⟩ : ByteArray).get! 0 = b := rfl
  rw [e]
  unfold decodeN
  rw [if_pos h]
theorem ofNat_lt {b : UInt8} (h : b.toNat < 128) : encodeRune (b.toNat : Int) = [b] := by
  simp only [encodeRune, encodeRuneZ_one (r := (b.toNat : Int)) (by omega) (by omega), List.map_cons, List.map_nil]
  congr 1
  simp
theorem decodeL_get (l : List UInt8) : decodeL l = decodeN l.length (l.getD 0 0).toNat (l.getD 1 0).toNat (l.getD 2 0).toNat (l.getD 3 0).toNat := by
  unfold decodeL
  rw [decode_at]
  have e : ∀ k, (⟨l.toArray⟩ : ByteArray).get! k = l.getD k 0 := by
    intro k
    show l.toArray[k]! = _
    simp [List.getD_eq_getElem?_getD]
    rfl
  simp only [e]
  rfl
set_option maxRecDepth 100000 in
set_option maxHeartbeats 2000000 in
theorem decodeN_more (n b0 b1 b2 b3 n' b1' b2' b3' : Nat) (hv : ¬ ((decodeN n b0 b1 b2 b3).1 = 65533 ∧ (decodeN n b0 b1 b2 b3).2 = 1)) (h : (decodeN n b0 b1 b2 b3).2 ≤ n')
    (h1 : 1 < (decodeN n b0 b1 b2 b3).2 → b1' = b1) (h2 : 2 < (decodeN n b0 b1 b2 b3).2 → b2' = b2) (h3 : 3 < (decodeN n b0 b1 b2 b3).2 → b3' = b3) : decodeN n' b0 b1' b2' b3' = decodeN n b0 b1 b2 b3 := by
  revert hv h h1 h2 h3
  generalize e : decodeN n b0 b1 b2 b3 = p
  obtain ⟨r, w⟩ := p
  intro hv h h1 h2 h3
  simp only at hv h h1 h2 h3
  unfold decodeN at e
  by_cases c0 : b0 < 128
  · rw [if_pos c0] at e
    unfold decodeN; rw [if_pos c0]; exact e
  · rw [if_neg c0] at e
    by_cases c1 : b0 / 32 = 6 ∧ (1 < n ∧ b1 / 64 = 2)
    · rw [if_pos c1] at e
      split at e
      · rename_i k
        cases e
        have e1 := h1 (by omega)
        subst e1
        unfold decodeN; rw [if_neg c0, if_pos ⟨c1.1, by omega, c1.2.2⟩, if_pos k]
      · cases e; exact absurd ⟨rfl, rfl⟩ hv
    · rw [if_neg c1] at e
      by_cases c2 : b0 / 16 = 14 ∧ (1 < n ∧ b1 / 64 = 2) ∧ (2 < n ∧ b2 / 64 = 2)
      · rw [if_pos c2] at e
        split at e
        · rename_i k
          cases e
          have e1 := h1 (by omega)
          have e2 := h2 (by omega)
          subst e1; subst e2
          unfold decodeN; rw [if_neg c0, if_neg (by omega), if_pos ⟨c2.1, ⟨by omega, c2.2.1.2⟩, by omega, c2.2.2.2⟩, if_pos k]
        · cases e; exact absurd ⟨rfl, rfl⟩ hv
      · rw [if_neg c2] at e
        split at e
        · rename_i c3
          split at e
          · rename_i k
            cases e
            have e1 := h1 (by omega)
            have e2 := h2 (by omega)
            have e3 := h3 (by omega)
            subst e1; subst e2; subst e3
            unfold decodeN; rw [if_neg c0, if_neg (by omega), if_neg (by omega), if_pos ⟨c3.1, ⟨by omega, c3.2.1.2⟩, ⟨by omega, c3.2.2.1.2⟩, by omega, c3.2.2.2.2⟩, if_pos k]
          · cases e; exact absurd ⟨rfl, rfl⟩ hv
        · cases e; exact absurd ⟨rfl, rfl⟩ hv
theorem decodeL_pos (l : List UInt8) (hne : l ≠ []) : 1 ≤ (decodeL l).2 := by
  rw [decodeL_get l]
  unfold decodeN
  repeat' split
  all_goals simp
/-- What follows a rune does not matter. -/
theorem decodeL_more (l t : List UInt8) (hne : l ≠ []) (hv : ¬ ((decodeL l).1 = 65533 ∧ (decodeL l).2 = 1)) : decodeL (l.take (decodeL l).2 ++ t) = decodeL l := by
  have hle := decodeL_le l hne
  have hpos := decodeL_pos l hne
  have e := decodeL_get l
  generalize hk : (decodeL l).2 = k at *
  have g : ∀ j, j < k → (l.take k ++ t).getD j 0 = l.getD j 0 := by
    intro j hj
    rw [List.getD_eq_getElem?_getD, List.getD_eq_getElem?_getD, List.getElem?_append_left (by simp; omega), List.getElem?_take, if_pos hj]
  rw [decodeL_get (l.take k ++ t), e, g 0 (by omega)]
  rw [e] at hk hv
  refine decodeN_more _ _ _ _ _ _ _ _ _ (by rw [hk]; exact hv) ?_ ?_ ?_ ?_
  · rw [hk]; simp; omega
  · rw [hk]; intro h; rw [g 1 h]
  · rw [hk]; intro h; rw [g 2 h]
  · rw [hk]; intro h; rw [g 3 h]
theorem big_bytes (l : List UInt8) (hne : l ≠ []) (hv : ¬ ((decodeL l).1 = 65533 ∧ (decodeL l).2 = 1)) (hb : 128 ≤ (l.getD 0 0).toNat) : (∀ b ∈ l.take (decodeL l).2, 128 ≤ b.toNat) ∧ 128 ≤ (decodeL l).1 := by
  have hr := decodeL_get l
  have hle := decodeL_le l hne
  have hlen : 0 < l.length := by cases l with
    | nil => exact absurd rfl hne
    | cons a l => simp
  unfold decodeN at hr
  rw [if_neg (by omega)] at hr
  split at hr
  · rename_i c
    split at hr
    · rw [hr] at hv hle ⊢
      simp only at hle ⊢
      rw [takeB l (by omega)]
      refine ⟨fun b hb' => ?_, by omega⟩
      simp at hb'
      rcases hb' with h | h <;> (subst h; simp at hb c; omega)
    · rw [hr] at hv; exact absurd ⟨rfl, rfl⟩ hv
  · split at hr
    · rename_i c
      split at hr
      · rw [hr] at hv hle ⊢
        simp only at hle ⊢
        rw [takeC l (by omega)]
        refine ⟨fun b hb' => ?_, by omega⟩
        simp at hb'
        rcases hb' with h | h | h <;> (subst h; simp at hb c; omega)
      · rw [hr] at hv; exact absurd ⟨rfl, rfl⟩ hv
    · split at hr
      · rename_i c
        split at hr
        · rw [hr] at hv hle ⊢
          simp only at hle ⊢
          rw [takeD l (by omega)]
          refine ⟨fun b hb' => ?_, by omega⟩
          simp at hb'
          rcases hb' with h | h | h | h <;> (subst h; simp at hb c; omega)
        · rw [hr] at hv; exact absurd ⟨rfl, rfl⟩ hv
      · rw [hr] at hv; exact absurd ⟨rfl, rfl⟩ hv
theorem qBody_big {l : List UInt8} (h : ∀ b ∈ l, 128 ≤ b.toNat) : qBody l = l := by
  induction l with
  | nil => rfl
  | cons b l ih =>
    have hb := h b (by simp)
    have h1 : qb b = [b] := by
      unfold qb
      have ne : ∀ c : UInt8, c.toNat < 128 → b ≠ c := fun c hc e => by subst e; omega
      rw [if_neg (by rintro (e | e) <;> exact ne _ (by decide) e), if_neg (ne _ (by decide)), if_neg (ne _ (by decide)), if_neg (ne _ (by decide)), if_neg]
      rintro (e | e)
      · rw [UInt8.lt_iff_toNat_lt] at e
        simp at e; omega
      · exact ne _ (by decide) e
    show qb b ++ qBody l = _
    rw [h1, ih fun b hb => h b (List.mem_cons_of_mem _ hb)]
    rfl
theorem qBody_append (a b : List UInt8) : qBody (a ++ b) = qBody a ++ qBody b := by simp [qBody]
/-- A byte below 128 in quotes is read as it was. -/
theorem unq_byte (b : UInt8) (hb : b.toNat < 128) (f : Nat) (at' : Nat) (out t : List UInt8) : unqG (f + 1) (qb b ++ t) at' out = unqG f t (at' + (qb b).length) (out ++ [b]) := by
  have esc : ∀ (x : UInt8) (l : List UInt8) (c : UInt8), c.toNat < 128 → escL (92 :: x :: (l ++ t)) = some (c.toNat, l.length + 2) → unqG (f + 1) (92 :: x :: l ++ t) at' out = unqG f t (at' + (92 :: x :: l).length) (out ++ [c]) := by
    intro x l c hc he
    show unqG (f + 1) (92 :: x :: (l ++ t)) at' out = _
    simp only [unqG]
    rw [if_neg (by simp), decodeL_lt (show (92 : UInt8).toNat < 128 by decide), if_neg (by decide), if_neg (by decide), if_pos (by decide), he]
    simp only
    rw [ofNat_lt hc]
    rw [show (92 :: x :: (l ++ t)).drop (l.length + 2) = t by simp]
    simp
  unfold qb
  split
  · rename_i h
    rcases h with rfl | rfl
    · exact esc 34 [] 34 (by decide) rfl
    · exact esc 92 [] 92 (by decide) rfl
  · rename_i h0
    split
    · rename_i h; subst h; exact esc 110 [] 10 (by decide) rfl
    · split
      · rename_i h; subst h; exact esc 114 [] 13 (by decide) rfl
      · split
        · rename_i h; subst h; exact esc 116 [] 9 (by decide) rfl
        · split
          · rename_i h
            refine esc 117 [48, 48, hexD (b.toNat / 16), hexD (b.toNat % 16)] b hb ?_
            have hex : ∀ k : Fin 128, k.val < 32 ∨ k.val = 127 → hexN [48, 48, hexD (k.val / 16), hexD (k.val % 16)] 0 = some k.val := by decide +kernel
            have h' : b.toNat < 32 ∨ b.toNat = 127 := by
              rcases h with h | h
              · rw [UInt8.lt_iff_toNat_lt] at h; exact .inl h
              · subst h; exact .inr rfl
            have h2 := hex ⟨b.toNat, hb⟩ h'
            simp only at h2
            have h3 : unitL (92 :: 117 :: ([48, 48, hexD (b.toNat / 16), hexD (b.toNat % 16)] ++ t)) = some b.toNat := by
              unfold unitL
              rw [if_neg (by simp)]
              exact h2
            have h4 : escL (92 :: 117 :: ([48, 48, hexD (b.toNat / 16), hexD (b.toNat % 16)] ++ t)) = some (b.toNat, 6) := by
              have h5 : escG (92 :: 117 :: ([48, 48, hexD (b.toNat / 16), hexD (b.toNat % 16)] ++ t)) = (b.toNat, 6, true) := by
                unfold escG
                simp only [show escT 117 = none by decide, h3, escU, Option.isSome_some, Option.getD_some]
                rw [if_pos (by right; omega)]
                simp; omega
              unfold escL
              rw [h5]; rfl
            exact h4
          · rename_i h1 h2 h3 h4
            have n34 : b.toNat ≠ 34 := fun e => h0 (.inl (UInt8.toNat_inj.1 e))
            have n92 : b.toNat ≠ 92 := fun e => h0 (.inr (UInt8.toNat_inj.1 e))
            have n32 : ¬ b.toNat < 32 := fun e => h4 (.inl (by rw [UInt8.lt_iff_toNat_lt]; exact e))
            show unqG (f + 1) (b :: t) at' out = _
            simp only [unqG]
            rw [if_neg (by simp), decodeL_lt hb, if_neg (by simpa using n34), if_neg (by simp; omega), if_neg (by simpa using n92)]
            simp only
            rw [ofNat_lt hb]
            simp
theorem qb_pos (b : UInt8) : 1 ≤ (qb b).length := by unfold qb; repeat' split
                                                     all_goals simp
theorem unq_back : ∀ (n : Nat) (s : List UInt8), s.length ≤ n → validD s = true → ∀ (f at' : Nat) (out rest : List UInt8), s.length < f → (out ++ s).length ≤ 4096 →
    unqG f (qBody s ++ 34 :: rest) at' out = (out ++ s, at' + (qBody s).length + 1, 0)
  | n, [], _, _, f, at', out, rest, hf, hl => by
    obtain ⟨f, rfl⟩ : ∃ g, f = g + 1 := ⟨f - 1, by omega⟩
    simp only [qBody, List.flatMap_nil, List.nil_append, unqG]
    rw [if_neg (by simp), decodeL_lt (show (34 : UInt8).toNat < 128 by decide)]
    simp only [List.append_nil] at hl
    rw [if_pos (show ((34 : UInt8).toNat, 1).1 = 34 from rfl), if_neg (by omega)]
    simp
  | 0, b :: s, h, _, _, _, _, _, _, _ => by simp at h
  | n + 1, b :: s, h, hv, f, at', out, rest, hf, hl => by
    obtain ⟨f, rfl⟩ : ∃ g, f = g + 1 := ⟨f - 1, by omega⟩
    by_cases hb : b.toNat < 128
    · rw [validD_cons b s hb] at hv
      have e : qBody (b :: s) = qb b ++ qBody s := rfl
      rw [e, List.append_assoc, unq_byte b hb, unq_back n s (by simp at h; omega) hv f _ _ rest (by simp at hf; omega) (by simpa using hl)]
      simp; omega
    · have hne : (b :: s) ≠ [] := by simp
      rw [validD_step _ hne] at hv
      split at hv
      · cases hv
      · rename_i hok
        obtain ⟨h1, h2⟩ := big_bytes (b :: s) hne hok (by simpa using by omega)
        have hpos := decodeL_pos (b :: s) hne
        have hle := decodeL_le (b :: s) hne
        have hmore := decodeL_more (b :: s)
        have henc := encode_decode (b :: s) hne hok
        generalize hk : decodeL (b :: s) = p at *
        obtain ⟨r, k⟩ := p
        simp only at *
        have hsplit : (b :: s) = (b :: s).take k ++ (b :: s).drop k := (List.take_append_drop k _).symm
        have hb2 : qBody (b :: s) = (b :: s).take k ++ qBody ((b :: s).drop k) := by
          conv => lhs; rw [hsplit]
          rw [qBody_append, qBody_big h1]
        have htl : ((b :: s).take k).length = k := by rw [List.length_take]; omega
        have hx : ∀ u, decodeL ((b :: s).take k ++ u) = (r, k) := fun u => hmore u hne hok
        generalize hA : (b :: s).take k = A at *
        generalize hD : (b :: s).drop k = D at *
        have hlenAD : (b :: s).length = A.length + D.length := by rw [hsplit]; simp
        rw [hb2, List.append_assoc]
        simp only [unqG, hx]
        rw [if_neg (by intro e; have := congrArg List.length e; simp at this), if_neg (by omega), if_neg (by omega), if_neg (by omega), henc]
        rw [show (A ++ (qBody D ++ 34 :: rest)).drop k = qBody D ++ 34 :: rest by rw [← htl, List.drop_left]]
        rw [unq_back n D (by omega) hv f _ _ rest (by omega) (by rw [List.append_assoc, ← hsplit]; exact hl)]
        rw [hsplit]
        simp; omega
theorem qBody_len : ∀ s : List UInt8, s.length ≤ (qBody s).length
  | [] => Nat.le_refl _
  | b :: s => by
    have h1 := qb_pos b
    have h2 := qBody_len s
    show s.length + 1 ≤ (qb b ++ qBody s).length
    rw [List.length_append]; omega
theorem unquote_back (s rest : List UInt8) (hv : validD s = true) (hl : s.length ≤ 4096) : unquoteT (quoteT s ++ rest) = (s, (quoteT s).length, 0) := by
  unfold unquoteT quoteT
  simp only [List.cons_append, List.head?_cons, if_true, List.drop_succ_cons, List.drop_zero, List.append_assoc, List.singleton_append, List.nil_append]
  have hb := qBody_len s
  rw [unq_back s.length s (Nat.le_refl _) hv _ 1 [] rest (by simp; omega) (by simpa using hl)]
  simp; omega
end Go.Proofs.YtdjjmppnnkkloaaGreatDoor
/-
  PLAIN: digits, and the number that they are.
-/
namespace Go.Proofs.YtdjjmppnnkkloaaGreatDoor
open Sy Go
def digitM (n : Int) : Bool := decide (48 ≤ n) && decide (n ≤ 57)
def isDig (b : UInt8) : Bool := digitM b.toNat
def valI (D : List UInt8) : Nat := D.foldl (fun n c => n * 10 + (c.toNat - 48)) 0
end Go.Proofs.YtdjjmppnnkkloaaGreatDoor
/-
  DERIVED: THE SHELF's CONTRACTS AT THIS DUMP, IN PLAIN WORDS (tools/lay-plain.mjs out of 'TryzShelf3Q.lean', which tools/lay-shelf.mjs wrote): THE SAME DECLARATIONS UNDER THE SAME NAMES: 'import', 'namespace', 'open', 'def', 'theorem' AND NOTHING ELSE: no command of the shelf's: FOR A HAND-IN. Each laying: the table of numbers ('.._ren') and one theorem, a field a fact of the dump's own or the kernel's comparison; each contract: ONE APPLICATION.
-/
namespace Go.Proofs
open Go.Shelf
def Tryz.laysM171_ren : Go.Shelf.Ren := ⟨fun | 171 => 52 | 243 => 90 | 246 => 120 | 283 => 142 | 284 => 143 | 285 => 144 | 286 => 145 | 129 => 160 | 317 => 159 | 318 => 161 | 319 => 162 | 320 => 163 | 337 => 170 | 338 => 171 | n => n, fun | 3 => 3 | 9 => 9 | 2 => 2 | 4 => 4 | 171 => 163 | 0 => 0 | 53 => 37 | 37 => 110 | 5 => 5 | 173 => 166 | 212 => 178 | 51 => 162 | 20 => 20 | 213 => 179 | 46 => 119 | 232 => 195 | 233 => 196 | n => n, fun | 17 => 3 | 18 => 6 | 19 => 7 | n => n⟩
theorem Tryz.laysM171 : Go.Proofs.LaysM.n171 Tryz.prog Tryz.laysM171_ren := {
  mixed := by kernel_rfl
  f129 := Tryz.func160.trans (congrArg some (by kernel_rfl))
  f171 := Tryz.func52.trans (congrArg some (by kernel_rfl))
  f243 := Tryz.func90.trans (congrArg some (by kernel_rfl))
  f246 := Tryz.func120.trans (congrArg some (by kernel_rfl))
  f283 := Tryz.func142.trans (congrArg some (by kernel_rfl))
  f284 := Tryz.func143.trans (congrArg some (by kernel_rfl))
  f285 := Tryz.func144.trans (congrArg some (by kernel_rfl))
  f286 := Tryz.func145.trans (congrArg some (by kernel_rfl))
  f317 := Tryz.func159.trans (congrArg some (by kernel_rfl))
  f318 := Tryz.func161.trans (congrArg some (by kernel_rfl))
  f319 := Tryz.func162.trans (congrArg some (by kernel_rfl))
  f320 := Tryz.func163.trans (congrArg some (by kernel_rfl))
  f337 := Tryz.func170.trans (congrArg some (by kernel_rfl))
  f338 := Tryz.func171.trans (congrArg some (by kernel_rfl))
  t0 := Tryz.underlying0
  a0 := Tryz.isAgg0
  z0 := Tryz.sizeOf0
  v0 := Tryz.zeroValue0
  t2 := Tryz.underlying2
  a2 := Tryz.isAgg2
  z2 := Tryz.sizeOf2
  v2 := Tryz.zeroValue2
  t3 := Tryz.underlying3
  a3 := Tryz.isAgg3
  z3 := Tryz.sizeOf3
  v3 := Tryz.zeroValue3
  t4 := Tryz.underlying4
  a4 := Tryz.isAgg4
  z4 := Tryz.sizeOf4
  v4 := Tryz.zeroValue4
  t5 := Tryz.underlying5
  a5 := Tryz.isAgg5
  z5 := Tryz.sizeOf5
  v5 := Tryz.zeroValue5
  t9 := Tryz.underlying9
  a9 := Tryz.isAgg9
  z9 := Tryz.sizeOf9
  v9 := Tryz.zeroValue9
  t20 := Tryz.underlying20
  a20 := Tryz.isAgg20
  z20 := Tryz.sizeOf20
  v20 := Tryz.zeroValue20
  t37 := Tryz.underlying110
  a37 := Tryz.isAgg110
  z37 := Tryz.sizeOf110
  v37 := Tryz.zeroValue110
  t46 := Tryz.underlying119
  a46 := Tryz.isAgg119
  z46 := Tryz.sizeOf119
  v46 := Tryz.zeroValue119
  t51 := Tryz.underlying162
  a51 := Tryz.isAgg162
  z51 := Tryz.sizeOf162
  v51 := Tryz.zeroValue162
  t53 := Tryz.underlying37
  a53 := Tryz.isAgg37
  z53 := Tryz.sizeOf37
  v53 := Tryz.zeroValue37
  t171 := Tryz.underlying163
  a171 := Tryz.isAgg163
  z171 := Tryz.sizeOf163
  v171 := Tryz.zeroValue163
  t173 := Tryz.underlying166
  a173 := Tryz.isAgg166
  z173 := Tryz.sizeOf166
  v173 := Tryz.zeroValue166
  t212 := Tryz.underlying178
  a212 := Tryz.isAgg178
  z212 := Tryz.sizeOf178
  v212 := Tryz.zeroValue178
  t213 := Tryz.underlying179
  a213 := Tryz.isAgg179
  z213 := Tryz.sizeOf179
  t232 := Tryz.underlying195
  a232 := Tryz.isAgg195
  z232 := Tryz.sizeOf195
  v232 := Tryz.zeroValue195
  t233 := Tryz.underlying196
  a233 := Tryz.isAgg196
  z233 := Tryz.sizeOf196
  v233 := Tryz.zeroValue196
  g17 := by kernel_rfl
  g18 := by kernel_rfl
  g19 := by kernel_rfl
  i0 := by kernel_rfl
  i2 := by kernel_rfl
  i3 := by kernel_rfl
  i4 := by kernel_rfl
  i5 := by kernel_rfl
  i9 := by kernel_rfl
  i20 := by kernel_rfl
  i37 := by kernel_rfl
  i46 := by kernel_rfl
  i51 := by kernel_rfl
  i53 := by kernel_rfl
  i171 := by kernel_rfl
  i173 := by kernel_rfl
  i212 := by kernel_rfl
  i232 := by kernel_rfl
  i233 := by kernel_rfl
  m17 := by kernel_rfl
  m18 := by kernel_rfl
  m19 := by kernel_rfl }
end Go.Proofs
/-
  OUR OWN LAYER: strconv.Itoa of any number, by the kit's contract: its table is known whole.
-/
namespace Go.Proofs.YtdjjmppnnkkloaaGreatDoor
open Sy Go
set_option linter.unusedVariables false
variable {G : Glob}
def powP : List PD := Lib.pow10Tab.map (PD.int .u64)
/-- The table of powers of ten is listed. -/
def HasPow (g : Nat) (G : Glob) : Prop := G g = some powP
theorem pow_tab {g : Nat} {M : FMap} {w : World} (hG : HasPow g G) (hn : Tryz.prog.globalNamed "internal/strconv.uint64pow10" = some g) (hg : GOK G M w) (hmem : ∀ b o v, M b o = some v → w.cell? ⟨b, o, none⟩ = some v) : Lib.TabIs Tryz.prog w "internal/strconv.uint64pow10" .u64 Lib.pow10Tab := by
  obtain ⟨arr, t, q, h1, h2⟩ := hg.2 g powP hG rfl
  obtain ⟨h3, h4⟩ := hg.1 g powP hG
  unfold Lib.TabIs World.var?
  rw [hn]
  simp only [Option.bind_some, h1]
  congr 1
  have hl : powP.length = Lib.pow10Tab.length := by simp [powP]
  refine Array.ext (by simp [h2, hl]) fun j hj1 hj2 => ?_
  have hj : j < Lib.pow10Tab.length := by simpa using hj2
  have hd : powP[j]? = some (.int .u64 (Lib.pow10Tab[j])) := by simp [powP, hj]
  obtain ⟨u, hu, _⟩ := h3 j _ hd
  have hr := h4 j _ u hd hu
  cases hr
  have hc := hmem _ _ _ hu
  have hw : w.cell? ⟨g, j, none⟩ = some arr[j] := by
    unfold World.cell?
    simp [h1, hj1]
  have e := Option.some.inj (hw.symm.trans hc)
  rw [e]; simp
theorem arg_intN {M : FMap} {vs : Array Value} {n : Int} (hsz : vs.size = 1) (h : ∀ (i : Nat) u d, vs[i]? = some u → [PD.int .i64 n][i]? = some d → Rd M u d) : vs = #[.int .i64 n] ∧ -9223372036854775808 ≤ n ∧ n ≤ 9223372036854775807 := by
  obtain ⟨l⟩ := vs
  match l, hsz with
  | [u], _ =>
    have h1 := h 0 u (.int .i64 n) rfl rfl
    cases h1 with
    | int h3 h4 => exact ⟨rfl, by rw [kmin_eq] at h3; simpa [kmin] using h3, by rw [kmax_eq] at h4; simpa [kmax] using h4⟩
theorem ItoaN_ev {g : Nat} (hG : HasPow g G) (hn : Tryz.prog.globalNamed "internal/strconv.uint64pow10" = some g) (n : Int) : AFn Tryz.prog G 52 [.int .i64 n] (.str (Lib.itoa n)) := by
  refine AFn.of_calls (callable_of Tryz.func52 (by kernel_rfl) rfl) fun M w vs hg hmem hsz hrd => ?_
  obtain ⟨rfl, h0, h1⟩ := arg_intN hsz hrd
  refine (Any.strconv_Itoa Tryz.laysM171 n h0 h1 w (pow_tab hG hn hg hmem)).mono ?_
  rintro e w' ⟨rfl, k, os, rfl⟩
  have hl := Lib.itoa_length_le n h0 h1
  exact ⟨_, rfl, .str (by simp) (by simp; omega), Lib.below_grow _ w (Nat.le_refl _) k os⟩
/-! ### The tables of a law that writes numbers -/
def u8pG (g3 g4 g5 : Nat) : Glob := fun g => if g = g5 then some powP else u8G g3 g4 g
theorem u8pG_pow (g3 g4 g5 : Nat) : HasPow g5 (u8pG g3 g4 g5) := by simp [HasPow, u8pG]
theorem u8pG_has {g3 g4 g5 : Nat} (h : g4 ≠ g3) (h3 : g3 ≠ g5) (h4 : g4 ≠ g5) : HasU8 g3 g4 (u8pG g3 g4 g5) := by
  obtain ⟨a, b⟩ := u8G_has h
  exact ⟨by simp only [u8pG]; rw [if_neg h3]; exact a, by simp only [u8pG]; rw [if_neg h4]; exact b⟩
theorem pow_small : ∀ j : Fin 20, (0 : Int) ≤ Lib.pow10Tab.getD j.val 0 ∧ Lib.pow10Tab.getD j.val 0 ≤ 18446744073709551615 := by decide
theorem u8pG_ok {g3 g4 g5 : Nat} {W : World} (h : Lib.Utf8Tabs g3 g4 W) (hne : g4 ≠ g3) (hn : Tryz.prog.globalNamed "internal/strconv.uint64pow10" = some g5) (ht : Lib.TabIs Tryz.prog W "internal/strconv.uint64pow10" .u64 Lib.pow10Tab) : GOK (u8pG g3 g4 g5) (memOf W) W := by
  have hu := u8G_ok h hne
  refine ⟨fun g cs hg => ?_, fun g cs hg hi => ?_⟩
  · simp only [u8pG] at hg
    split at hg
    · rename_i e; subst e; cases hg
      have key : ∀ (j : Nat) d, powP[j]? = some d → ∃ z : Int, d = .int .u64 z ∧ 0 ≤ z ∧ z ≤ 18446744073709551615 ∧ memOf W g j = some (.int .u64 z) := fun j d hd => by
        have hj : j < Lib.pow10Tab.length := by have := (List.getElem?_eq_some_iff.1 hd).1; simpa [powP] using this
        have h20 : j < 20 := by simpa [Lib.pow10Tab] using hj
        have hb := pow_small ⟨j, h20⟩
        refine ⟨Lib.pow10Tab.getD j 0, ?_, hb.1, hb.2, ht.cell hn j hj⟩
        simp only [powP, List.getElem?_map, List.getElem?_eq_getElem hj, Option.map_some, Option.some.injEq] at hd
        rw [← hd, List.getD_eq_getElem?_getD, List.getElem?_eq_getElem hj]; rfl
      refine ⟨fun j d hd => ?_, fun j d u hd hu => ?_⟩
      · obtain ⟨z, rfl, _, _, hm⟩ := key j d hd; exact ⟨_, hm, rfl⟩
      · obtain ⟨z, rfl, h0, h1, hm⟩ := key j d hd
        have := hu.symm.trans hm
        cases this
        exact .int (by rw [kmin_eq]; exact h0) (by rw [kmax_eq]; exact h1)
    · exact hu.1 g cs hg
  · simp only [u8pG] at hg
    split at hg
    · rename_i e; subst e; cases hg
      unfold Lib.TabIs World.var? at ht
      rw [hn] at ht
      simp only [Option.bind_some] at ht
      split at ht
      · rename_i cs t q hb
        refine ⟨cs, t, q, hb, ?_⟩
        rw [Option.some.inj ht]; simp [powP]
      · cases ht
    · exact hu.2 g cs hg hi
/-- A table that is listed, wherever it stands on the list. -/
theorem tab_of_reads {P : Program} {W : World} {name : String} {k : IntKind} {zs : List Int} {g : Nat} {t e : TypeId} {n : Nat} (hg : P.globalNamed name = some g) (hty : (P.globals[g]?).map (·.type) = some t) (ht : P.underlying t = some (.array n e)) (he : P.underlying e = some (.int k))
    (hce : P.cellsOf e = 1) (hct : P.cellsOf t = n) (h : Lib.VarReads P W name (Lib.tabData k zs)) : Lib.TabIs P W name k zs := by
  obtain ⟨g', t', cs, fuel, p, hg', ht', hvar, hd⟩ := h
  obtain rfl := Option.some.inj (hg.symm.trans hg')
  obtain rfl := Option.some.inj (hty.symm.trans ht')
  unfold Lib.TabIs
  rw [hvar, ← Lib.cells_of_tab ht he hce hct hd]
end Go.Proofs.YtdjjmppnnkkloaaGreatDoor
/-
  PLAIN: the figures of the numbers below ten thousand.
-/
namespace Go.Proofs.YtdjjmppnnkkloaaGreatDoor
open Sy Go
set_option maxRecDepth 100000
def itoaGood (k : Nat) : Bool := (Lib.itoa (k : Int)).all isDig && decide (valI (Lib.itoa (k : Int)) = k) && decide (1 ≤ (Lib.itoa (k : Int)).length ∧ (Lib.itoa (k : Int)).length ≤ 4)
theorem itoa_all : (List.range 10000).all itoaGood = true := by decide +kernel
theorem itoa_good {k : Nat} (h : k < 10000) : (Lib.itoa (k : Int)).all isDig = true ∧ valI (Lib.itoa (k : Int)) = k ∧ 1 ≤ (Lib.itoa (k : Int)).length ∧ (Lib.itoa (k : Int)).length ≤ 4 := by
  have := List.all_eq_true.1 itoa_all k (List.mem_range.2 h)
  simpa [itoaGood, and_assoc] using this
end Go.Proofs.YtdjjmppnnkkloaaGreatDoor
/-
  A PLAIN LAW: the step that a printed pattern begins with is the one that was printed.
-/
namespace Go.Proofs.YtdjjmppnnkkloaaGreatDoor
open Sy Go
set_option linter.unusedSimpArgs false
set_option linter.unusedVariables false
set_option maxRecDepth 100000
/-- A step, as it is written. -/
def writtenT (t : Step) : List UInt8 := if t.kind = 1 ∧ mayNameM t.key = true then 46 :: t.key else if t.kind = 1 then 91 :: (quoteT t.key ++ [93]) else if t.kind = 2 then 91 :: (Lib.itoa t.n ++ [93]) else if t.kind = 3 then [46, 42] else if t.kind = 4 then [91, 42, 93] else [42, 42]
def numG : List UInt8 → Int → Int
  | [], n => n
  | b :: r, n => if isDig b = true ∧ n ≤ 9999 then numG r (n * 10 + ((b.toNat : Int) - 48)) else n
def isNm (b : UInt8) : Bool := asF nameSet b.toNat
/-- The step that a text may begin with. -/
def guessB (s : List UInt8) : Step :=
  if ([42, 42] : List UInt8).isPrefixOf s then ⟨5, [], 0⟩ else if ([46, 42] : List UInt8).isPrefixOf s then ⟨3, [], 0⟩ else if ([91, 42] : List UInt8).isPrefixOf s then ⟨4, [], 0⟩
  else if ([91, 34] : List UInt8).isPrefixOf s then ⟨1, (unquoteT (s.drop 1)).1, 0⟩ else if ([91] : List UInt8).isPrefixOf s then ⟨2, [], numG (s.drop 1) 0⟩ else if ([46] : List UInt8).isPrefixOf s then ⟨1, (s.drop 1).takeWhile isNm, 0⟩ else ⟨0, [], 0⟩
/-- Which steps may be (by their kinds). -/
def okStep (t : Step) : Prop := (t.kind = 1 ∧ Lib.validD t.key = true ∧ t.key.length ≤ 4096 ∧ t.n = 0) ∨ (t.kind = 2 ∧ 0 ≤ t.n ∧ t.n ≤ 9999 ∧ t.key = []) ∨ ((t.kind = 3 ∨ t.kind = 4 ∨ t.kind = 5) ∧ t.key = [] ∧ t.n = 0)
theorem numG_all : ∀ (l : List UInt8) (n : Nat) (rest : List UInt8), l.all isDig = true → l.length ≤ 4 → n < 10 ^ (4 - l.length) → (∀ b, rest.head? = some b → isDig b = false) → numG (l ++ rest) n = (l.foldl (fun n c => n * 10 + (c.toNat - 48)) n : Nat)
  | [], n, rest, _, _, _, hr => by
    cases rest with
    | nil => rfl
    | cons b r => simp [numG, hr b rfl]
  | b :: l, n, rest, h, hl, hn, hr => by
    simp only [List.all_cons, Bool.and_eq_true] at h
    simp only [List.length_cons] at hl hn
    have h4 : 10 ^ (4 - (l.length + 1)) ≤ 10 ^ 4 := Nat.pow_le_pow_right (by decide) (by omega)
    have hd := h.1
    simp only [isDig, digitM, Bool.and_eq_true, decide_eq_true_eq] at hd
    have e : 4 - l.length = (4 - (l.length + 1)) + 1 := by omega
    have hp : 10 ^ (4 - l.length) = 10 ^ (4 - (l.length + 1)) * 10 := by rw [e, Nat.pow_succ]
    simp only [List.cons_append, numG, List.foldl_cons]
    rw [if_pos ⟨h.1, by omega⟩]
    have ih := numG_all l (n * 10 + (b.toNat - 48)) rest h.2 (by omega) (by rw [hp]; omega) hr
    rw [← ih]
    congr 1
    omega
theorem tw_nm {s rest : List UInt8} (hs : s.all isNm = true) (hr : ∀ b, rest.head? = some b → isNm b = false) : (s ++ rest).takeWhile isNm = s := by
  induction s with
  | nil =>
    cases rest with
    | nil => rfl
    | cons b F => have := hr b rfl; simp [List.takeWhile_cons, this]
  | cons b W ih =>
    simp only [List.all_cons, Bool.and_eq_true] at hs
    simp [List.takeWhile_cons, hs.1, ih hs.2]
/-- The step that was written is the one that is guessed. -/
theorem guess_written {t : Step} (h : okStep t) {rest : List UInt8} (hr : ∀ b, rest.head? = some b → b = 46 ∨ b = 91 ∨ b = 42) : guessB (writtenT t ++ rest) = t := by
  obtain ⟨kd, key, n⟩ := t
  rcases h with ⟨h1, h2, h3, h4⟩ | ⟨h1, h2, h3, h4⟩ | ⟨h1, h2, h3⟩
  · simp only at h1 h2 h3 h4
    subst h1; subst h4
    unfold writtenT
    by_cases hn : mayNameM key = true
    · rw [if_pos ⟨rfl, hn⟩]
      unfold mayNameM at hn
      simp only [Bool.and_eq_true] at hn
      cases key with
      | nil => simp at hn
      | cons b r =>
        have hb : b ∈ letters := by simpa using hn.2.2
        have hb42 : b ≠ 42 := by rintro rfl; revert hb; decide
        have ht := tw_nm (s := b :: r) (rest := rest) hn.1 (fun c hc => by rcases hr c hc with rfl | rfl | rfl <;> decide)
        unfold guessB
        rw [if_neg (by simp [List.isPrefixOf]), if_neg (by simp [List.isPrefixOf]; exact fun e => hb42 e.symm), if_neg (by simp [List.isPrefixOf]), if_neg (by simp [List.isPrefixOf]), if_neg (by simp [List.isPrefixOf]), if_pos (by simp [List.isPrefixOf])]
        simp only [List.cons_append, List.drop_succ_cons, List.drop_zero] at ht ⊢
        rw [ht]
    · rw [if_neg (fun h => hn h.2), if_pos rfl]
      have hu := unquote_back key (93 :: rest) h2 h3
      have e1 : 91 :: (quoteT key ++ [93]) ++ rest = 91 :: 34 :: (qBody key ++ [34] ++ [93] ++ rest) := by simp [quoteT]
      have e2 : (91 :: (quoteT key ++ [93]) ++ rest).drop 1 = quoteT key ++ 93 :: rest := by simp
      unfold guessB
      rw [e2, hu, e1]
      rw [if_neg (by simp [List.isPrefixOf]), if_neg (by simp [List.isPrefixOf]), if_neg (by simp [List.isPrefixOf]), if_pos (by simp [List.isPrefixOf])]
  · simp only at h1 h2 h3 h4
    subst h1; subst h4
    obtain ⟨m, rfl⟩ : ∃ m : Nat, n = m := ⟨n.toNat, by omega⟩
    obtain ⟨g1, g2, g3, g4⟩ := itoa_good (k := m) (by omega)
    unfold writtenT
    rw [if_neg (fun h => absurd h.1 (show ¬ (2 : Int) = 1 by decide)), if_neg (show ¬ (2 : Int) = 1 by decide), if_pos rfl]
    show guessB (91 :: (Lib.itoa (m : Int) ++ [93]) ++ rest) = _
    have hnum := numG_all (Lib.itoa (m : Int)) 0 (93 :: rest) g1 g4 (Nat.pow_pos (by decide)) (by intro b hb; simp at hb; subst hb; rfl)
    have hv : (Lib.itoa (m : Int)).foldl (fun n c => n * 10 + (c.toNat - 48)) 0 = m := g2
    rw [hv] at hnum
    rw [show ((0 : Nat) : Int) = 0 from rfl] at hnum
    have e2 : (91 :: (Lib.itoa (m : Int) ++ [93]) ++ rest).drop 1 = Lib.itoa (m : Int) ++ 93 :: rest := by simp
    obtain ⟨b, r, e⟩ : ∃ b r, Lib.itoa (m : Int) = b :: r := by
      cases hh : Lib.itoa (m : Int) with
      | nil => rw [hh] at g3; simp at g3
      | cons b r => exact ⟨b, r, rfl⟩
    have hb : isDig b = true := by rw [e] at g1; simp only [List.all_cons, Bool.and_eq_true] at g1; exact g1.1
    have hb1 : b ≠ 42 := by rintro rfl; revert hb; decide
    have hb2 : b ≠ 34 := by rintro rfl; revert hb; decide
    unfold guessB
    rw [e2, hnum, e]
    rw [if_neg (by simp [List.isPrefixOf]), if_neg (by simp [List.isPrefixOf]), if_neg (by simp [List.isPrefixOf]; exact fun e => hb1 e.symm), if_neg (by simp [List.isPrefixOf]; exact fun e => hb2 e.symm), if_pos (by simp [List.isPrefixOf])]
  · simp only at h1 h2 h3
    subst h2; subst h3
    rcases h1 with rfl | rfl | rfl <;> simp [writtenT, guessB, List.isPrefixOf]
end Go.Proofs.YtdjjmppnnkkloaaGreatDoor
/-
  OUR OWN LAYER: contracts of the kit's shelf as ours: which texts are UTF-8.
-/
namespace Go.Proofs.YtdjjmppnnkkloaaGreatDoor
open Sy Go
variable {G : Glob}
theorem ValidString_ev (hG : U8 G) (s : List UInt8) : AFn Tryz.prog G 83 [.str s] (.bool (Lib.validD s)) := by
  refine AFn.of_calls (callable_of Tryz.func83 (by kernel_rfl) rfl) fun M w vs hg hmem hsz hrd => ?_
  obtain ⟨b, rfl, rfl, hm⟩ := arg_str hsz hrd
  refine (Any.utf8_ValidString Tryz.lays196 b w hm (u8_tabs hG hg hmem)).mono ?_
  rintro e w' ⟨rfl, hb⟩
  exact ⟨_, rfl, .bool _, hb⟩
end Go.Proofs.YtdjjmppnnkkloaaGreatDoor
namespace Go.Proofs.YtdjjmppnnkkloaaGreatDoor
open Sy Go
set_option maxRecDepth 100000
set_option maxHeartbeats 4000000
set_option linter.unusedSimpArgs false
set_option linter.unusedVariables false
variable {G : Glob}
theorem Valid_ev (hG : U8 G) (s : List UInt8) : AFn Tryz.prog G 46 [.str s] (.bool (Lib.validD s)) := by
  refine AFn.introU tok Tryz.func46 (by kernel_rfl) rfl rfl ?_
  simp only [Tryz.f46, enumA, List.map_cons, List.map_nil]
  refine rgn [] [[0]] ?_
  refine op1 tok ?_
  refine runEnd ?_
  refine rgn [.nilp, .bool (Lib.validD s)] [[], [], [2]] ?_
  iterate 3 refine op1 tok ?_ (hv := by first | with_reducible exact True.intro | (exact ValidString_ev hG s; done) | omega | simp | (simp; omega) | (simp +contextual; omega))
  refine runEnd ?_
  exact AW.ret ⟨.inr rfl, _, _, by (conv => lhs; simp), trivial, by simp⟩
end Go.Proofs.YtdjjmppnnkkloaaGreatDoor
namespace Go.Proofs.YtdjjmppnnkkloaaGreatDoor
open Sy Go
set_option maxRecDepth 100000
set_option maxHeartbeats 4000000
set_option linter.unusedSimpArgs false
set_option linter.unusedVariables false
variable {G : Glob}

def mayM (t : Step) : Bool := stepM t (Lib.validD t.key)
def mayL (l : List Step) : Int := if 8 < l.length then 3 else if l.all mayM then 0 else 21
theorem stepV_ev (hG : U8 G) (t : Step) : AFn Tryz.prog G 105 [t.enc] (.bool (mayM t)) := step_ev t _ fun _ _ => Valid_ev hG t.key
theorem May_ev (hG : U8 G) (l : List Step) : AFn Tryz.prog G 82 [.sl 3 (l.map Step.enc)] (.int .i64 (mayL l)) := by
  refine AFn.introU tok Tryz.func82 (by kernel_rfl) rfl rfl ?_
  simp only [Tryz.f82, enumA, List.map_cons, List.map_nil]
  refine rgn [] [[0]] ?_
  refine op1 tok ?_
  refine runEnd ?_
  refine AW.seq ?_
  refine rgn [] [[], [], [0, 7]] ?_
  iterate 3 refine op1 tok ?_
  refine runEnd ?_
  refine cnd ?_ ?_
  · intro h7
    try simp at h7
    refine rgn [] [[]] ?_
    refine op1 tok ?_
    refine runEnd ?_
    exact AW.ret ⟨.inr rfl, _, _, by (conv => lhs; simp), trivial, by simp [mayL, show 8 < l.length by omega]⟩
  · intro h7
    try simp at h7
    refine AW.skip ?_
    refine AW.seq ?_
    refine rgn [] [[], [], [8, 9, 10]] ?_
    iterate 3 refine op1 tok ?_
    refine runEnd ?_
    refine AW.block ?_
    refine AW.loop (α := Nat) (fun k => k ≤ l.length ∧ (l.take k).all mayM = true) (fun k => ⟨upds 18 [(8, .p (.sl 3 (l.map Step.enc))), (9, .p (.int .i64 l.length)), (10, .p (.int .i64 k))], [], [], 0⟩) (fun k => l.length - k) (0) ⟨by omega, rfl⟩ ⟨upds_le (by simp), rfl, by simp, by simp⟩ ?_
    rintro k ⟨hk, hall⟩
    refine rgn [] [[]] ?_
    refine op1 tok ?_
    refine runEnd ?_
    refine AW.seq ?_
    refine cnd ?_ ?_
    · intro h11
      try simp at h11
      obtain ⟨t, ht⟩ : ∃ t, l[k]? = some t := ⟨l[k], by simp [h11]⟩
      have hM := stepV_ev hG t
      simp at hM
      refine AW.skip ?_
      refine AW.seq ?_
      refine AW.block ?_
      refine rgn [t.enc] [[], [], [], [4, 8, 9, 10]] ?_
      iterate 4 refine op1 tok ?_ (hv := by first | with_reducible exact True.intro | (simp [ht]; done) | omega | simp | (simp; omega) | (simp +contextual; omega))
      refine runEnd ?_
      refine rgn [.nilp, .bool (mayM t)] [[], [], [8, 9, 10, 16]] ?_
      iterate 3 refine op1 tok ?_ (hv := by first | with_reducible exact True.intro | (simp [hM]; done) | omega | simp | (simp; omega) | (simp +contextual; omega))
      refine runEnd ?_
      refine cnd ?_ ?_
      · intro h16
        try simp at h16
        have hno : l.all mayM = false := by
          rw [List.all_eq_false]
          exact ⟨t, List.mem_of_getElem? ht, by simp [h16]⟩
        refine rgn [] [[]] ?_
        refine op1 tok ?_
        refine runEnd ?_
        exact AW.ret ⟨.inr rfl, _, _, by (conv => lhs; simp), trivial, by simp only [mayL, hno]; simp [show ¬ 8 < l.length by omega]⟩
      · intro h16
        try simp at h16
        refine AW.skip ?_
        refine rgz [] [[], [8, 9, 10]] ?_
        iterate 2 refine op1 tok ?_
        refine runEnd ?_
        exact ⟨k + 1, ⟨by omega, by rw [List.take_add_one, ht, List.all_append, hall]; simp [h16]⟩, by omega, upds_le (by simp), rfl, by simp, by simp⟩
    · intro h11
      try simp at h11
      rw [List.take_of_length_le h11] at hall
      refine AW.exit ?_
      simp
      refine rgn [] [[]] ?_
      refine op1 tok ?_
      refine runEnd ?_
      exact AW.ret ⟨.inr rfl, _, _, by (conv => lhs; simp), trivial, by simp only [mayL, hall]; simp [show ¬ 8 < l.length by omega]⟩
end Go.Proofs.YtdjjmppnnkkloaaGreatDoor
