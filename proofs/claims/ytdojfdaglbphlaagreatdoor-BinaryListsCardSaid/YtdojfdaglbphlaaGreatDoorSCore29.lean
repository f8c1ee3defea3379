import Derived.Test.YtdojfdaglbphlaaGreatDoorSCore28
import Derived.Lib.AppendZerosOnto
namespace Go.Proofs.YtdojfdaglbphlaaGreatDoor.Sy
open Go
set_option linter.unusedSimpArgs false
set_option linter.unusedVariables false
section
variable {P : Program} {T : Tab} {G : qQ} {st : St}
theorem zFF (hT : TOK P T) {o : Oper} {args : Array Operand} {tys : Array TypeId} (ho : o.op = .call { callee := .builtin .append, args := args, argTypes := tys }) {s x : Operand} {t tn el : TypeId}
  (hargs : args.toList = [s, x]) (htys : tys.toList = [t, tn]) {p q : Prop} (hs : st.arg G s = (p, .nilsl)) (hp : p) {kq kn : IntKind} {n : Nat} (hx : st.arg G x = (q, .p (.int kq n))) (hq : q)
  (ht : wB T t = some (.sl el)) (htn : wB T tn = some (.int kn)) {ti : TI} (hti : T el = some ti) {zs : List V} (hzs : ti.zero.cells = some zs) (hzl : zs.length = ti.size) (hby : 0 < ti.bytes) (hsz : 0 < ti.size) {e0 : PD} (hfit : V.fitsL [] zs e0.cells)
  (h0 : 0 < n) (hbound : n * ti.bytes ≤ 140737488355328) (id : Nat) (hf : st.fresh id = true) :
  zE P G o st (.ms id) { st with H := (id, .row el ti.size (List.replicate n e0)) :: st.H } := by
 intro c M μ tmps w hg r
 have ea := qCA hargs
 have et := qCA htys
 subst ea; subst et
 have hvv := qE hg r hs hp
 have hyy := (qE hg r hx hq).p_inv
 generalize hu1 : Act.eval ⟨tmps, []⟩ s = u1 at hvv
 generalize hu2 : Act.eval ⟨tmps, []⟩ x = u2 at hyy
 cases hvv
 cases hyy
 obtain ⟨z, hzr, hzc, i, hi, hz, hisz, hiby⟩ := qCI hT hti hzs M μ w
 have hd := hT.sl ht
 have hdn : P.underlying tn = some (.int kn) := hT.int htn
 have hlen : n ≤ 140737488355328 := Nat.le_trans (Nat.le_mul_of_pos_right _ hby) hbound
 have hrun := Lib.run_append_grow_zeros (P := P) w t tn o.type el i z kq kn hd hdn hi hz none 0 0 [] (by simp [Builtin.firstCells]) n h0 (by omega) (by omega) (by omega) (by rw [hiby]; omega) (growslice_fits (by omega) (by rw [hiby, Nat.zero_add]; exact hbound))
 have e1 : (execOp (Act.eval ⟨tmps, []⟩) o).run P w = .ok (.value (.slice (some ⟨w.heap.size, 0, none⟩) (0 + n) (grownCap w (0 + n) 0 el))) (w.drew.alloc (.cells (([] : List Value).toArray ++ Builtin.zeroCells z.cells n ++ Builtin.zeroCells z.cells (grownCap w (0 + n) 0 el - (0 + n))) el)) := by
  simp [execOp, ho, resolve, invoke, builtin, hu1, hu2, hrun]
 rw [e1]
 have hge := grownCap_ge w (0 + n) 0 el
 have hge2 : n ≤ grownCap w n 0 el := by have h := grownCap_ge w n 0 el; exact h
 have hcm := grownCap_le_maxLen w (0 + n) 0 el (by simp [maxLen]; omega)
 have hzz : z.cells.size = ti.size := by have := hzc.size; omega
 have hall : RowOf M ti.size (List.replicate n e0) (Builtin.zeroCells z.cells n).toList := by
  rw [qQK, hzz]; exact qOA hzc hzl hfit n
 refine ⟨M, upd μ id ⟨some w.heap.size, .slice (some ⟨w.heap.size, 0, none⟩) (0 + n) (grownCap w (0 + n) 0 el)⟩, ?_, .ms (by rw [qP]) rfl⟩
 refine r.newBox hf ((Grows.drew w).trans (Grows.alloc _ _)) (fun b hb => by cases hb; exact ⟨Nat.le_refl _, by simp⟩) ?_ rfl
 have hl0 : (Builtin.zeroCells z.cells n).size = n * ti.size := by rw [size_zeroCells, hzz]
 refine hall.box (b := w.heap.size) (cap := grownCap w (0 + n) 0 el) (by rw [qP]) (by rw [qP]; simp) (heap_alloc_new w.drew _) ?_ (by simp only [Nat.zero_add, List.length_replicate]; exact hge2) hcm (fun j u hu => ?_) ?_
 ·rw [Array.size_append, Array.size_append, size_zeroCells, size_zeroCells, hzz]
  simp only [List.size_toArray, List.length_nil, Nat.zero_add]
  rw [← Nat.add_mul]; congr 1; omega
 ·rw [Array.getElem?_append] at hu
  split at hu
  ·rw [Array.getElem?_append] at hu
   split at hu
   ·simp at hu
   ·exact qBQ hzc.one _ _ u hu
  ·exact qBQ hzc.one _ _ u hu
 ·simp only [Array.toList_append, List.nil_append, List.length_replicate]
  rw [List.take_append_of_le_length (by simp [hl0]), List.take_of_length_le (by simp [hl0])]
theorem qWD (hT : TOK P T) {o : Oper} {x : Operand} {t el : TypeId} {p : Prop} (ho : o.op = .call { callee := .builtin .cap, args := #[x], argTypes := #[t] }) (ht : wB T t = some (.sl el)) (h1 : st.arg G x = (p, .nilsl)) (hp : p) :
  zE P G o st (.p (.int .i64 0)) st := by
 intro c M μ tmps w hg r
 have hd := hT.sl ht
 have e1 := qE hg r h1 hp
 generalize hu1 : Act.eval ⟨tmps, []⟩ x = u1 at e1
 cases e1
 have e : (execOp (Act.eval ⟨tmps, []⟩) o).run P w = .ok (.value (.int .i64 0)) w := by
  simp [execOp, ho, resolve, invoke, builtin, hu1, Builtin.cap_, run_underlying hd, goInt]
 rw [e]
 exact ⟨M, μ, r, .p (Rd.intOf (by simp [kR]) (by simp [kS]))⟩
theorem zAO (hT : TOK P T) {o : Oper} {x y : Operand} {t el : TypeId} {p q : Prop} {kd : IntKind} (ho : o.op = .slice t x none (some y) none) (ht : wB T t = some (.sl el)) (h1 : st.arg G x = (p, .nilsl)) (hp : p) (h2 : st.arg G y = (q, .p (.int kd 0))) (hq : q) {ti : TI} (hti : T el = some ti) :
  zE P G o st .nilsl st := by
 intro c M μ tmps w hg r
 have hd := hT.sl ht
 obtain ⟨i, de, hi', _, _, hsz, _⟩ := hT.get hti
 have hso : (sizeOf el).run P w = .ok ti.size w := by simp [sizeOf, typeInfo, hi', hsz]
 have e1 := qE hg r h1 hp
 have e2 := (qE hg r h2 hq).p_inv
 generalize hu1 : Act.eval ⟨tmps, []⟩ x = u1 at e1
 generalize hu2 : Act.eval ⟨tmps, []⟩ y = u2 at e2
 cases e1
 cases e2
 have hbd := wO (P := P) (isSlice := true) (len := 0) (cap := 0) (lo := none) (hi := some (.int kd 0)) (l := 0) (h := 0) (.inl ⟨rfl, rfl⟩) (.inr ⟨kd, rfl⟩) (by omega) (by omega) (by omega) w
 have er : (execOp (Act.eval ⟨tmps, []⟩) o).run P w = .ok (.value (.slice none 0 0)) w := by
  simp at hbd
  simp [execOp, ho, hu1, hu2, Instr.sliceAt, Instr.slice, run_underlying hd, hbd, hso]
 rw [er]
 exact ⟨M, μ, r, .nilsl⟩
end
end Go.Proofs.YtdojfdaglbphlaaGreatDoor.Sy
