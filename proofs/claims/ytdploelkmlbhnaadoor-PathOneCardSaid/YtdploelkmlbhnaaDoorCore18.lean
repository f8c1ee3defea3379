/-
  OUR OWN LAYER, 18: functions without a body that the model knows.
-/
import Derived.Test.YtdploelkmlbhnaaDoorCore17
import Derived.Lib.Bytealg
namespace Go.Proofs.YtdploelkmlbhnaaDoor.Sy
open Go
section
variable {P : Program} {T : Tab} {G : Glob}
/-- Where the model knows function 'f' as 'e'. -/
def IsExt (P : Program) (f : FuncId) (e : Array Value → Sem Value) : Prop := ∀ args w, (callFunc f args).run P w = ((e args).run P w).andThen fun v w' => .ok (.value v) w'

theorem y_indexByte {o : Oper} {st : St} {x a b : Operand} {tys : Array TypeId} {f : FuncId} (he : IsExt P f Extern.BytealgIndexByte.indexByte)
    (ho : o.op = .call { callee := .value x, args := #[a, b], argTypes := tys }) {p q r : Prop} {s : List UInt8} {n : Int} (hf : st.arg G x = (p, .p (.fn f))) (hp : p)
    (ha : st.arg G a = (q, .p (.str s))) (hq : q) (hb : st.arg G b = (r, .p (.int .u8 n))) (hr : r) : Yields P G o st (.p (.int .i64 (Lib.indexByte s n.toNat.toUInt8))) st := by
  intro c M μ tmps w hg rel
  have h1 := (arg_sound hg rel hf hp).p_inv
  have h2 := (arg_sound hg rel ha hq).p_inv
  have h3 := (arg_sound hg rel hb hr).p_inv
  generalize hu1 : Act.eval ⟨tmps, []⟩ x = u1 at h1
  generalize hu2 : Act.eval ⟨tmps, []⟩ a = u2 at h2
  generalize hu3 : Act.eval ⟨tmps, []⟩ b = u3 at h3
  cases h1
  cases h3
  cases h2 with
  | @str bb _ hs hm =>
  have e : (execOp (Act.eval ⟨tmps, []⟩) o).run P w = .ok (.value (.int .i64 (Lib.indexByte s n.toNat.toUInt8))) w := by
    have e1 := he #[.string bb, .int .u8 n] w
    rw [Lib.run_indexByteString] at e1
    subst hs
    simp only [execOp, ho, resolve, Deferred.ofValue, hu1, invoke]
    simpa [hu2, hu3] using e1
  rw [e]
  refine ⟨M, μ, rel, .p (.int ?_ ?_)⟩
  · have := Lib.indexByte_ge s n.toNat.toUInt8
    rw [kmin_eq]; simp only [kmin]; omega
  · rw [kmax_eq]; simp only [kmax]
    have hlt : ∀ (l : List UInt8) (c : UInt8), Lib.indexByte l c ≤ l.length := by
      intro l c
      induction l with
      | nil => simp [Lib.indexByte]
      | cons b l ih =>
        unfold Lib.indexByte
        simp only [List.length_cons]
        split
        · omega
        · split
          · omega
          · omega
    have := hlt s n.toNat.toUInt8
    simp [maxLen] at hm
    have : s.length ≤ 9223372036854775807 := by omega
    omega
@[simp] theorem maxLen_eq : maxLen = 9223372036854775807 := rfl
@[simp] theorem ba_size (a : Array UInt8) : (ByteArray.mk a).size = a.size := rfl
@[simp] theorem pcells_cons (d : PD) (ds : List PD) : pcells (d :: ds) = .p d :: pcells ds := rfl
@[simp] theorem map_p_pcells (ds : List PD) : ds.map V.p = pcells ds := rfl
@[simp] theorem fitsL_pcells (H : List (Nat × Box)) : ∀ (ds es : List PD), V.fitsL H (pcells ds) es ↔ ds = es
  | [], [] => by simp [V.fitsL]
  | [], e :: es => by simp [V.fitsL]
  | d :: ds, [] => by simp [V.fitsL]
  | d :: ds, e :: es => by simp [V.fitsL, V.fits, fitsL_pcells H ds es]
variable {Q : Exit → St → Prop} {st st1 : St}
/-- The first 'n' operations. -/
theorem AOps.pref (hT : TOK P T) (n : Nat) (orc : List PD) {l m : List Oper} {v : Know → Prop} (h : ∀ C, opsRun C T G l (m.take n) st orc = some (v C, st1)) (hv : v (AFn P G)) (k : AOps P G l.toArray Q (m.drop n) st1) : AOps P G l.toArray Q m st := by
  have := opsRun_sound (Q := Q) hT l (m.take n) (m.drop n) st orc _ st1 (h (AFn P G)) hv k
  rw [List.take_append_drop] at this
  exact this
/-- All that is left. -/
theorem AOps.all (hT : TOK P T) (orc : List PD) {l m : List Oper} {v : Know → Prop} (h : ∀ C, opsRun C T G l m st orc = some (v C, st1)) (hv : v (AFn P G)) (k : Q .normal st1) : AOps P G l.toArray Q m st := by
  have := opsRun_sound (Q := Q) hT l m [] st orc _ st1 (h (AFn P G)) hv (AOps.nil k)
  rw [List.append_nil] at this
  exact this
/-- Where ways come together: a family of states. -/
theorem AW.join {a b : Code} {α : Type} (I : α → Prop) (S : α → St) (ha : AW P G a (andThen (fun s => ∃ x, I x ∧ St.Le s (S x)) Q) st) (hb : ∀ x, I x → AW P G b Q (S x)) : AW P G (.seq a b) Q st := by
  refine AW.seq (ha.mono fun e s h => ?_)
  cases e with
  | normal =>
    obtain ⟨x, hx, hle⟩ := h
    exact (hb x hx).weaken hle
  | _ => exact h
end
end Go.Proofs.YtdploelkmlbhnaaDoor.Sy
