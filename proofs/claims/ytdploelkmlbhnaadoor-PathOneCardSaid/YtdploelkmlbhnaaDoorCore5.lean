/-
  OUR OWN LAYER, 5: the binary operations.
-/
import Derived.Test.YtdploelkmlbhnaaDoorCore4
namespace Go.Proofs.YtdploelkmlbhnaaDoor.Sy
open Go

def tkOf (T : Tab) (t : TypeId) : Option TK := (T t).map fun x => x.k
theorem TOK.kind {P : Program} {T : Tab} (h : TOK P T) {t : TypeId} {k : TK} (ht : tkOf T t = some k) : ∃ d, P.underlying t = some d ∧ TK.of d = k := by
  obtain ⟨ti, hti, rfl⟩ := Option.map_eq_some_iff.1 ht
  obtain ⟨i, d, _, hd, hd2, _⟩ := h.get hti
  exact ⟨d, hd, hd2⟩
theorem TK.of_int {d : TypeDesc} {k : IntKind} (h : TK.of d = .int k) : d = .int k := by cases d <;> simp_all [TK.of]
theorem TK.of_bool {d : TypeDesc} (h : TK.of d = .bool) : d = .bool := by cases d <;> simp_all [TK.of]
theorem TK.of_str {d : TypeDesc} (h : TK.of d = .str) : d = .string := by cases d <;> simp_all [TK.of]
theorem TK.of_sl {d : TypeDesc} {e : TypeId} (h : TK.of d = .sl e) : d = .slice e := by cases d <;> simp_all [TK.of]
theorem TK.of_ar {d : TypeDesc} {n : Nat} {e : TypeId} (h : TK.of d = .ar n e) : d = .array n e := by cases d <;> simp_all [TK.of]
theorem TK.of_ptr {d : TypeDesc} {e : TypeId} (h : TK.of d = .ptr e) : d = .pointer e := by cases d <;> simp_all [TK.of]
theorem TK.of_map {d : TypeDesc} {k e : TypeId} (h : TK.of d = .map k e) : d = .map k e := by cases d <;> simp_all [TK.of]
theorem TK.of_st {d : TypeDesc} {fs : List (Nat × TypeId)} (h : TK.of d = .st fs) : ∃ l, d = .struct l ∧ l.toList.map (fun f => (f.offset, f.type)) = fs := by
  cases d <;> simp_all [TK.of]
theorem TOK.int {P : Program} {T : Tab} (h : TOK P T) {t : TypeId} {k : IntKind} (ht : tkOf T t = some (.int k)) : P.underlying t = some (.int k) := by
  obtain ⟨d, hd, hd2⟩ := h.kind ht; rw [hd, TK.of_int hd2]
theorem TOK.bool {P : Program} {T : Tab} (h : TOK P T) {t : TypeId} (ht : tkOf T t = some .bool) : P.underlying t = some .bool := by
  obtain ⟨d, hd, hd2⟩ := h.kind ht; rw [hd, TK.of_bool hd2]
theorem TOK.str {P : Program} {T : Tab} (h : TOK P T) {t : TypeId} (ht : tkOf T t = some .str) : P.underlying t = some .string := by
  obtain ⟨d, hd, hd2⟩ := h.kind ht; rw [hd, TK.of_str hd2]
theorem TOK.sl {P : Program} {T : Tab} (h : TOK P T) {t e : TypeId} (ht : tkOf T t = some (.sl e)) : P.underlying t = some (.slice e) := by
  obtain ⟨d, hd, hd2⟩ := h.kind ht; rw [hd, TK.of_sl hd2]
theorem TOK.ar {P : Program} {T : Tab} (h : TOK P T) {t e : TypeId} {n : Nat} (ht : tkOf T t = some (.ar n e)) : P.underlying t = some (.array n e) := by
  obtain ⟨d, hd, hd2⟩ := h.kind ht; rw [hd, TK.of_ar hd2]
theorem TOK.ptr {P : Program} {T : Tab} (h : TOK P T) {t e : TypeId} (ht : tkOf T t = some (.ptr e)) : P.underlying t = some (.pointer e) := by
  obtain ⟨d, hd, hd2⟩ := h.kind ht; rw [hd, TK.of_ptr hd2]

def PD.eqAtom (T : Tab) (t : TypeId) : PD → PD → Option Bool
  | .int k a, .int k' b => if k = k' ∧ tkOf T t = some (.int k) then some (decide (a = b)) else none
  | .bool a, .bool b => if tkOf T t = some .bool then some (a == b) else none
  | .str a, .str b => if tkOf T t = some .str then some (decide (a = b)) else none
  | _, _ => none
def PD.eqFlds (T : Tab) (xs ys : List PD) : List (Nat × TypeId) → Option Bool
  | [] => some true
  | (o, t) :: fs => match xs[o]?, ys[o]? with
    | some x, some y => match PD.eqAtom T t x y, PD.eqFlds T xs ys fs with
      | some a, some b => some (a && b)
      | _, _ => none
    | _, _ => none

def boolBin (op : BinOp) (a b : Bool) : Option (Prop × PD) :=
  match op with
  | .eql => some (True, .bool (a == b))
  | .neq => some (True, .bool (a != b))
  | _ => none
def eqRes (op : BinOp) (b : Bool) : Option (Prop × PD) :=
  match op with
  | .eql => some (True, .bool b)
  | .neq => some (True, .bool (!b))
  | _ => none

def PD.bin (T : Tab) (op : BinOp) (t : TypeId) : PD → PD → Option (Prop × PD)
  | .int k a, .int k' b => match op with
    | .shl => intShift .shl k a b
    | .shr => intShift .shr k a b
    | _ => if k = k' then intBin op k a b else none
  | .str a, .str b => strBin op a b
  | .bool a, .bool b => if tkOf T t = some .bool then boolBin op a b else none
  | .agg xs, .agg ys => match T t with
    | some ⟨.st fs, _, _, _, true⟩ => match PD.eqFlds T xs ys fs with
      | some b => eqRes op b
      | none => none
    | _ => none
  | _, _ => none

theorem str_val {b : ByteArray} {s : List UInt8} (h : b.data.toList = s) : b.toList = s := by rw [ByteArray.toList_eq]; exact h
theorem str_size {b : ByteArray} {s : List UInt8} (h : b.data.toList = s) : b.size = s.length := by subst h; exact (Array.length_toList).symm

section
variable {P : Program} {T : Tab} {M : FMap}

theorem beq_dec (a b : List UInt8) : (a == b) = decide (a = b) := by rw [Bool.eq_iff_iff]; simp
theorem run_isAgg {t : TypeId} {d : TypeDesc} (hd : P.underlying t = some d) (w : World) : (isAgg t).run P w = .ok (TK.of d).agg w := by
  unfold isAgg
  rw [Sem.run_bind, run_underlying hd]
  cases d <;> rfl
theorem run_part1 {t : TypeId} {d : TypeDesc} (hd : P.underlying t = some d) (ha : (TK.of d).agg = false) (cs : Array Value) (off : Nat) (v : Value) (hv : cs[off]? = some v) (w : World) :
    (part t cs off).run P w = .ok v w := by
  unfold part
  rw [Sem.run_bind, run_isAgg hd, ha]
  simp [hv]

theorem eqAtom_run (hT : TOK P T) {t : TypeId} {a b : PD} {r : Bool} (h : PD.eqAtom T t a b = some r) {u v : Value} (hu : Rd M u a) (hv : Rd M v b) (n : Nat) (w : World) :
    (Op.equalIn (n + 1) t u v).run P w = .ok r w ∧ ∃ d, P.underlying t = some d ∧ (TK.of d).agg = false := by
  unfold PD.eqAtom at h
  split at h
  · split at h
    · rename_i hk
      obtain ⟨rfl, hk⟩ := hk
      cases h; cases hu; cases hv
      have hd := hT.int hk
      refine ⟨?_, _, hd, rfl⟩
      rw [run_equalIn_int (P := P) w n t _ _ _ _ hd]
      congr 1
    · cases h
  · split at h
    · rename_i hk
      cases h; cases hu; cases hv
      have hd := hT.bool hk
      exact ⟨run_equalIn_bool' (P := P) w n t _ _ hd, _, hd, rfl⟩
    · cases h
  · split at h
    · rename_i hk
      cases h
      cases hu with
      | str hs1 _ =>
      cases hv with
      | str hs2 _ =>
      have hd := hT.str hk
      refine ⟨?_, _, hd, rfl⟩
      rw [run_equalIn_string (P := P) w n t _ _ hd, str_val hs1, str_val hs2, beq_dec]
    · cases h
  · cases h

theorem eqFlds_run (hT : TOK P T) {xs ys : Array Value} {as bs : List PD} (hx : ∀ (i : Nat) u d, xs[i]? = some u → as[i]? = some d → Rd M u d) (hxs : xs.size = as.length)
    (hy : ∀ (i : Nat) u d, ys[i]? = some u → bs[i]? = some d → Rd M u d) (hys : ys.size = bs.length) (n : Nat) (w : World) :
    ∀ (fl : List Field) (r : Bool), (∀ f ∈ fl, f.name ≠ "_") → PD.eqFlds T as bs (fl.map fun f => (f.offset, f.type)) = some r → (Op.eqFields (n + 1) xs ys fl).run P w = .ok r w
  | [], r, _, h => by cases h; simp [Op.eqFields]
  | f :: fl, r, hn, h => by
    simp only [List.map_cons, PD.eqFlds] at h
    split at h
    · rename_i a b ha hb
      split at h
      · rename_i r1 r2 h1 h2
        cases h
        have hxl : f.offset < xs.size := by rw [hxs]; exact (List.getElem?_eq_some_iff.1 ha).1
        have hyl : f.offset < ys.size := by rw [hys]; exact (List.getElem?_eq_some_iff.1 hb).1
        have hxu : xs[f.offset]? = some xs[f.offset] := by simp [hxl]
        have hyu : ys[f.offset]? = some ys[f.offset] := by simp [hyl]
        obtain ⟨e1, d, hd, hag⟩ := eqAtom_run hT h1 (hx _ _ _ hxu ha) (hy _ _ _ hyu hb) n w
        have ih := eqFlds_run hT hx hxs hy hys n w fl r2 (fun g hg => hn g (List.mem_cons.2 (.inr hg))) h2
        have p1 := run_part1 hd hag xs f.offset _ hxu w
        have p2 := run_part1 hd hag ys f.offset _ hyu w
        simp only [Op.eqFields, if_pos (hn f (List.mem_cons.2 (.inl rfl)))]
        simp only [Sem.run_bind, p1, p2, e1, Result.andThen_ok]
        cases r1
        · simp
        · simp [ih]
      · cases h
    · cases h

theorem bin_run (hT : TOK P T) {op : BinOp} {t : TypeId} {a b : PD} {v : Prop} {d : PD} (h : PD.bin T op t a b = some (v, d)) (hv : v) {x y : Value} (hx : Rd M x a) (hy : Rd M y b)
    (ox oy : Operand) (w : World) : ∃ r, (do eqGuard op t ox oy x y; binOp op t x y : Sem Value).run P w = .ok r w ∧ Rd M r d := by
  unfold PD.bin at h
  split at h
  · rename_i k a k' b
    cases hx with
    | int ha1 ha2 =>
    cases hy with
    | int hb1 hb2 =>
    have hg : (eqGuard op t ox oy (.int k a) (.int k' b)).run P w = .ok () w := by cases op <;> simp [eqGuard]
    simp only [Sem.run_bind, hg, Result.andThen_ok]
    split at h
    · simp only [intShift, Option.some.injEq, Prod.mk.injEq] at h
      obtain ⟨rfl, rfl⟩ := h
      refine ⟨_, ?_, Rd.wrap M k _⟩
      simp [binOp, Op.shift, show ¬ b < 0 by omega]
    · simp only [intShift, Option.some.injEq, Prod.mk.injEq] at h
      obtain ⟨rfl, rfl⟩ := h
      rw [kmin_eq] at ha1
      rw [kmax_eq] at ha2
      have hr := fdiv_range k a (min b.toNat k.bits) ha1 ha2
      refine ⟨_, ?_, Rd.intOf hr.1 hr.2⟩
      simp [binOp, Op.shift, show ¬ b < 0 by omega]
    · split at h
      · rename_i hk
        subst hk
        unfold intBin at h
        split at h
        case h_1 | h_2 | h_3 =>
          split at h
          · simp only [Option.some.injEq, Prod.mk.injEq] at h
            obtain ⟨rfl, rfl⟩ := h
            refine ⟨_, ?_, Rd.intOf hv.1 hv.2⟩
            simp [binOp, Op.intArith, wrap_of k _ hv.1 hv.2]
          · simp only [Option.some.injEq, Prod.mk.injEq] at h
            obtain ⟨rfl, rfl⟩ := h
            exact ⟨_, by simp [binOp, Op.intArith], Rd.wrap M k _⟩
        case h_4 =>
          simp only [Option.some.injEq, Prod.mk.injEq] at h
          obtain ⟨rfl, rfl⟩ := h
          exact ⟨_, by simp [binOp, Op.intDiv, hv], Rd.wrap M k _⟩
        case h_5 =>
          simp only [Option.some.injEq, Prod.mk.injEq] at h
          obtain ⟨rfl, rfl⟩ := h
          rw [kmin_eq] at ha1
          rw [kmax_eq] at ha2
          have hr := tmod_range k a b ha1 ha2
          exact ⟨_, by simp [binOp, Op.intDiv, hv], Rd.intOf hr.1 hr.2⟩
        case h_6 | h_7 | h_8 | h_9 =>
          simp only [Option.some.injEq, Prod.mk.injEq] at h
          obtain ⟨rfl, rfl⟩ := h
          exact ⟨_, by simp [binOp, Op.intBits], Rd.wrap M k _⟩
        case h_10 | h_11 | h_12 | h_13 | h_14 | h_15 =>
          simp only [Option.some.injEq, Prod.mk.injEq] at h
          obtain ⟨rfl, rfl⟩ := h
          refine ⟨_, ?_, .bool _⟩
          simp [binOp, Op.intCmp]
          try rfl
        case h_16 => cases h
      · cases h
  · rename_i a b
    cases hx with
    | str hs1 hm1 =>
    cases hy with
    | str hs2 hm2 =>
    rename_i xb yb
    have hg : (eqGuard op t ox oy (.string xb) (.string yb)).run P w = .ok () w := by cases op <;> simp [eqGuard]
    simp only [Sem.run_bind, hg, Result.andThen_ok]
    have e1 := str_val hs1
    have e2 := str_val hs2
    unfold strBin at h
    split at h
    case h_1 =>
      simp only [Option.some.injEq, Prod.mk.injEq] at h
      obtain ⟨rfl, rfl⟩ := h
      have z1 := str_size hs1
      have z2 := str_size hs2
      refine ⟨.string (xb ++ yb), ?_, .str (by simp [hs1, hs2]) (by simp [maxLen]; omega)⟩
      simp [binOp, Op.stringOp, IntKind.max, IntKind.signed, IntKind.bits]
      omega
    case h_2 | h_3 | h_4 | h_5 | h_6 | h_7 =>
      simp only [Option.some.injEq, Prod.mk.injEq] at h
      obtain ⟨rfl, rfl⟩ := h
      refine ⟨_, ?_, .bool _⟩
      simp [binOp, Op.stringOp, e1, e2, beq_dec]
    case h_8 => cases h
  · rename_i a b
    split at h
    · rename_i hk
      have hd := hT.bool hk
      cases hx; cases hy
      have hg : (eqGuard op t ox oy (.bool a) (.bool b)).run P w = .ok () w := by cases op <;> simp [eqGuard]
      simp only [Sem.run_bind, hg, Result.andThen_ok]
      unfold boolBin at h
      split at h
      · simp only [Option.some.injEq, Prod.mk.injEq] at h
        obtain ⟨rfl, rfl⟩ := h
        refine ⟨.bool (a == b), ?_, .bool _⟩
        rw [run_eql_bool (P := P) w t a b hd]
      · simp only [Option.some.injEq, Prod.mk.injEq] at h
        obtain ⟨rfl, rfl⟩ := h
        refine ⟨.bool (a != b), ?_, .bool _⟩
        simp only [binOp]
        simp [Op.equal, Op.maxDepth, run_equalIn_bool' (P := P) w 9999 t a b hd]
        cases a <;> cases b <;> rfl
      · cases h
    · cases h
  · rename_i as bs
    split at h
    · rename_i fs _ _ _ hti
      split at h
      · rename_i r hr
        cases hx with
        | agg hs1 _h1 hx =>
        cases hy with
        | agg hs2 _h2 hy =>
        rename_i xs ys
        obtain ⟨i, d, _, hd, hd2, _, _, _, heq⟩ := hT.get hti
        obtain ⟨l, rfl, hl⟩ := TK.of_st hd2
        simp only [eqOf, Bool.and_eq_true, Bool.not_eq_true', List.all_eq_true, bne_iff_ne] at heq
        have hf : P.fieldsOf t = l := by simp [Program.fieldsOf, hd]
        have hfl : P.underlying t = some (.struct (P.fieldsOf t)) := by rw [hf]; exact hd
        have hg := run_eqGuard_agg (P := P) w op t ox oy xs ys heq.1.2
        simp only [Sem.run_bind, hg, Result.andThen_ok]
        have he := run_equalIn_struct (P := P) w 9999 t xs ys hfl heq.1.1
        rw [hf] at he
        have hfin := eqFlds_run hT hx hs1 hy hs2 9998 w l.toList r heq.2 (by rw [hl]; exact hr)
        rw [hfin] at he
        unfold eqRes at h
        split at h
        · simp only [Option.some.injEq, Prod.mk.injEq] at h
          obtain ⟨rfl, rfl⟩ := h
          exact ⟨.bool r, by rw [run_eql_struct, he]; rfl, .bool _⟩
        · simp only [Option.some.injEq, Prod.mk.injEq] at h
          obtain ⟨rfl, rfl⟩ := h
          exact ⟨.bool (!r), by rw [run_neq_struct, he]; rfl, .bool _⟩
        · cases h
      · cases h
    · cases h
  · cases h
end
end Go.Proofs.YtdploelkmlbhnaaDoor.Sy
