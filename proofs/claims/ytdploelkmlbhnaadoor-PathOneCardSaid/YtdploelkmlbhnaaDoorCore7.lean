/-
  OUR OWN LAYER, 7: the operations that leave the boxes alone do what 'quiet' says.
-/
import Derived.Test.YtdploelkmlbhnaaDoorCore6
namespace Go.Proofs.YtdploelkmlbhnaaDoor.Sy
open Go

section
variable {P : Program} {T : Tab} {G : Glob} {c : Ctx} {M : FMap} {μ : Mu} {st : St} {tmps : Array Value} {w : World}


theorem conv_run (hT : TOK P T) {s d : TypeId} {a r : PD} {v : Prop} (h : PD.conv T s d a = some (v, r)) {u : Value} (hu : Rd M u a) (w : World) :
    ∃ y, (convert s d u).run P w = .ok y w ∧ Rd M y r := by
  unfold PD.conv at h
  split at h
  · rename_i k k' k0 n hs hd
    have hsd := hT.int hs
    have hdd := hT.int hd
    split at h
    · rename_i hk
      subst hk
      cases hu with
      | int h1 h2 =>
      rw [kmin_eq] at h1
      rw [kmax_eq] at h2
      have e : (convert s d (.int k n)).run P w = .ok (.int k' (k'.wrap n)) w := by
        simp [convert, run_underlying hsd, run_underlying hdd, Conv.intToInt]
      split at h
      · rename_i hw
        cases h
        have := wrap_of k' n (by omega) (by omega)
        exact ⟨_, e, by rw [this]; exact Rd.intOf (by omega) (by omega)⟩
      · cases h
        exact ⟨_, e, Rd.wrap M k' n⟩
    · cases h
  · rename_i b hs hd
    cases h
    have hsd := hT.str hs
    have hdd := hT.str hd
    cases hu with
    | str h1 h2 =>
    exact ⟨_, by simp [convert, run_underlying hsd, run_underlying hdd], .str h1 h2⟩
  · cases h

theorem bound_run (hg : GOK G c.M0) (r : Rel c M μ st tmps w) {x : Option Operand} {p : Prop} {n : Option Int} (h : bound st G x = some (p, n)) (hp : p) :
    (n = none ∧ x = none) ∨ ∃ k i, n = some i ∧ x.map (Act.eval ⟨tmps, []⟩) = some (.int k i) := by
  unfold bound at h
  split at h
  · cases h; exact .inl ⟨rfl, rfl⟩
  · rename_i x
    split at h
    · rename_i q k i he
      cases h
      have h1 := (arg_sound hg r he hp).p_inv
      generalize hu : Act.eval ⟨tmps, []⟩ x = u at h1
      cases h1
      exact .inr ⟨k, i, rfl, by simp [hu]⟩
    · cases h

theorem run_sliceBounds {isSlice : Bool} {len cap : Nat} {lo hi : Option Value} {l h : Int} (hlo : (lo = none ∧ l = 0) ∨ ∃ k, lo = some (.int k l)) (hhi : (hi = none ∧ h = len) ∨ ∃ k, hi = some (.int k h))
    (h0 : 0 ≤ l) (h1 : l ≤ h) (h2 : h ≤ cap) (w : World) : (Instr.sliceBounds isSlice len cap lo hi none).run P w = .ok (l.toNat, h.toNat, cap) w := by
  have b1 : ∀ (k : IntKind) (code : BoundsCode), (Instr.sliceBound (.int k h) cap code).run P w = .ok h.toNat w := fun k code => run_sliceBound (P := P) w k h cap code (by omega) (by omega)
  have b2 : ∀ (k : IntKind) (code : BoundsCode), (Instr.sliceBound (.int k l) h.toNat code).run P w = .ok l.toNat w := fun k code => run_sliceBound (P := P) w k l h.toNat code (by omega) (by omega)
  rcases hhi with ⟨rfl, rfl⟩ | ⟨k, rfl⟩ <;> rcases hlo with ⟨rfl, rfl⟩ | ⟨k', rfl⟩ <;> simp [Instr.sliceBounds, b1] <;> (first | (simp at b2; simp [b2]) | simp [b2])

theorem slice_run (hT : TOK P T) {t : TypeId} {x y : V} {lo hi : Option Int} {q : Prop} (h : sliceV T t x lo hi = some (q, y)) (hq : q) {u : Value} (hu : RV M μ u x)
    {vl vh : Option Value} (hl : (lo = none ∧ vl = none) ∨ ∃ k i, lo = some i ∧ vl = some (.int k i)) (hh : (hi = none ∧ vh = none) ∨ ∃ k i, hi = some i ∧ vh = some (.int k i)) (w : World) :
    ∃ v, (Instr.sliceAt t u vl vh none).run P w = .ok v w ∧ RV M μ v y := by
  unfold sliceV at h
  have hlo : (vl = none ∧ lo.getD 0 = 0) ∨ ∃ k, vl = some (.int k (lo.getD 0)) := by
    rcases hl with ⟨rfl, rfl⟩ | ⟨k, i, rfl, rfl⟩
    · exact .inl ⟨rfl, rfl⟩
    · exact .inr ⟨k, rfl⟩
  have hhi : ∀ n : Nat, (vh = none ∧ hi.getD (n : Int) = n) ∨ ∃ k, vh = some (.int k (hi.getD (n : Int))) := by
    intro n
    rcases hh with ⟨rfl, rfl⟩ | ⟨k, i, rfl, rfl⟩
    · exact .inl ⟨rfl, rfl⟩
    · exact .inr ⟨k, rfl⟩
  split at h
  · rename_i s hk
    simp only [Option.some.injEq, Prod.mk.injEq] at h
    obtain ⟨rfl, rfl⟩ := h
    obtain ⟨q0, q1, q2⟩ := hq
    have hd := hT.str hk
    cases hu with
    | p hu =>
    cases hu with
    | @str b _ hs hm =>
    have hz := str_size hs
    have hb := run_sliceBounds (P := P) (isSlice := false) (cap := b.size) hlo (by rw [← hz] at *; exact hhi b.size) q0 (by rw [hz]; exact q1) (by rw [hz]; exact q2) w
    refine ⟨.string (b.extract (lo.getD 0).toNat (hi.getD (b.size : Int)).toNat), ?_, .p (.str ?_ ?_)⟩
    · simp [Instr.sliceAt, Instr.slice, run_underlying hd, hb]
    · rw [hz]
      simp only [ByteArray.data_extract, Array.toList_extract]
      rw [List.extract_eq_take_drop, List.drop_take, hs]
    · simp only [List.length_drop, List.length_take]; omega
  · rename_i el sz es hk
    simp only [Option.some.injEq, Prod.mk.injEq] at h
    obtain ⟨rfl, rfl⟩ := h
    obtain ⟨qs, q0, q1, q2⟩ := hq
    have hd := hT.sl hk
    obtain ⟨ti, hti, rfl⟩ := Option.map_eq_some_iff.1 qs
    obtain ⟨i, de, hi', _, _, hsz, _⟩ := hT.get hti
    cases hu with
    | p hu =>
    cases hu with
    | @sl a n cp _ _ b o hn hnc hcm ha hz hex hrd =>
    subst hn
    have hb := run_sliceBounds (P := P) (isSlice := true) (len := es.length) (cap := cp) hlo (hhi es.length) q0 q1 (by omega) w
    have hso : (sizeOf el).run P w = .ok ti.size w := by simp [sizeOf, typeInfo, hi', hsz]
    refine ⟨.slice (if cp = (lo.getD 0).toNat then a else a.map (·.add ((lo.getD 0).toNat * ti.size))) ((hi.getD (es.length : Int)).toNat - (lo.getD 0).toNat) (cp - (lo.getD 0).toNat), ?_, .p ?_⟩
    · simp [Instr.sliceAt, Instr.slice, run_underlying hd, hb, hso]
    · generalize (lo.getD 0) = l at *
      generalize (hi.getD (es.length : Int)) = h at *
      obtain ⟨l, rfl⟩ := Int.eq_ofNat_of_zero_le q0
      obtain ⟨h, rfl⟩ := Int.eq_ofNat_of_zero_le (show 0 ≤ h by omega)
      simp only [Int.toNat_natCast]
      have hget : ∀ (j : Nat) e, ((es.take h).drop l)[j]? = some e → es[l + j]? = some e ∧ l + j < h := fun j e he => by
        rw [List.getElem?_drop, List.getElem?_take] at he
        split at he
        · exact ⟨he, by assumption⟩
        · cases he
      refine .sl b (o + l * ti.size) (by simp; omega) (by omega) (by omega) (fun hne => ?_) (fun j e he => hz _ e (hget j e he).1) (fun j e k he hk' => ?_) (fun j e k d u he hd' hu' => ?_)
      · have hln : cp ≠ l := by omega
        rw [if_neg hln, ha (by omega)]
        simp [add_eq]
      · obtain ⟨h1, h2⟩ := hget j e he
        obtain ⟨u, hu, hc⟩ := hex (l + j) e k h1 hk'
        exact ⟨u, by rw [← hu]; congr 1; rw [Nat.add_mul]; omega, hc⟩
      · obtain ⟨h1, h2⟩ := hget j e he
        exact hrd (l + j) e k d u h1 hd' (by rw [← hu']; congr 1; rw [Nat.add_mul]; omega)
  · cases h

theorem len_run (hT : TOK P T) (r : Rel c M μ st tmps w) {t : TypeId} {x : V} {d : PD} (h : lenV T st t x = some d) {u : Value} (hu : RV M μ u x) (ty : TypeId) :
    ∃ v, (Builtin.len_ #[t] ty #[u]).run P w = .ok v w ∧ Rd M v d := by
  unfold lenV at h
  split at h
  · rename_i s hk
    cases h
    have hd := hT.str hk
    cases hu with
    | p hu =>
    cases hu with
    | str hs hm =>
    refine ⟨.int .i64 s.length, by simp [Builtin.len_, run_underlying hd, goInt, str_size hs], Rd.intOf ?_ ?_⟩ <;> simp [kmin, kmax, maxLen] at * <;> omega
  · rename_i sz es hk
    cases h
    have hd := hT.sl hk
    cases hu with
    | p hu =>
    cases hu with
    | sl b o hn hnc hcm =>
    subst hn
    refine ⟨.int .i64 es.length, by simp [Builtin.len_, run_underlying hd, goInt], Rd.intOf ?_ ?_⟩ <;> simp [kmin, kmax, maxLen] at * <;> omega
  · rename_i hk
    cases h
    have hd := hT.sl hk
    cases hu
    exact ⟨.int .i64 0, by simp [Builtin.len_, run_underlying hd, goInt], Rd.intOf (by simp [kmin]) (by simp [kmax])⟩
  · rename_i id hk
    have hd := hT.sl hk
    split at h
    · rename_i e sz es hb
      cases h
      have hbx := r.box id _ (boxOf_mem hb)
      cases hu with
      | ms hu _ =>
      cases hbx with
      | row h0 hv hh hs hlc hm =>
        rw [hv] at hu; subst hu
        refine ⟨.int .i64 es.length, by simp [Builtin.len_, run_underlying hd, goInt], Rd.intOf ?_ ?_⟩ <;> simp [kmin, kmax, maxLen] at * <;> omega
      | rowN h0 hv =>
        rw [hv] at hu; subst hu
        exact ⟨.int .i64 0, by simp [Builtin.len_, run_underlying hd, goInt], Rd.intOf (by simp [kmin]) (by simp [kmax])⟩
    · cases h
  · cases h

theorem RL.ofArr {st : St} (hg : GOK G c.M0) (r : Rel c M μ st tmps w) (arr : Array Operand) :
    (arr.map (Act.eval ⟨tmps, []⟩)).size = (arr.toList.map (st.ev G)).length ∧ ∀ (i : Nat) u x, (arr.map (Act.eval ⟨tmps, []⟩))[i]? = some u → (arr.toList.map (st.ev G))[i]? = some x → RV M μ u x := by
  refine ⟨by simp, fun i u x hu hx => ?_⟩
  rw [Array.getElem?_map] at hu
  rw [List.getElem?_map] at hx
  obtain ⟨y, hy, rfl⟩ := Option.map_eq_some_iff.1 hu
  simp only [Array.getElem?_toList, hy, Option.map_some, Option.some.injEq] at hx
  subst hx
  exact ev_sound hg r y

/-- The cells of a value. -/
theorem cells_sound {u : Value} {x : V} {xs : List V} (hu : RV M μ u x) (h : x.cells = some xs) :
    u.cells.size = xs.length ∧ (∀ (i : Nat) v, u.cells[i]? = some v → v.oneCell' = true) ∧ (∀ (i : Nat) v y, u.cells[i]? = some v → xs[i]? = some y → RV M μ v y) := by
  have one : ∀ (u : Value) (x : V), RV M μ u x → u.oneCell' = true → (u.cells.size = [x].length ∧ (∀ (i : Nat) v, u.cells[i]? = some v → v.oneCell' = true) ∧ (∀ (i : Nat) v y, u.cells[i]? = some v → [x][i]? = some y → RV M μ v y)) := by
    intro u x hu h1
    have e : u.cells = #[u] := by cases u <;> simp_all [Value.cells, Value.oneCell']
    rw [e]
    refine ⟨rfl, fun i v hv => ?_, fun i v y hv hy => ?_⟩
    · match i with
      | 0 => simp at hv; subst hv; exact h1
      | i + 1 => simp at hv
    · match i with
      | 0 => simp at hv hy; subst hv; subst hy; exact hu
      | i + 1 => simp at hv
  cases hu with
  | p hd =>
    cases hd with
    | @agg arr cs h1 h2 h3 =>
      simp only [V.cells, Option.some.injEq] at h
      subst h
      refine ⟨by simp [Value.cells, h1], h2, fun i v y hv hy => ?_⟩
      rw [List.getElem?_map] at hy
      obtain ⟨d, hd, rfl⟩ := Option.map_eq_some_iff.1 hy
      exact .p (h3 i v d hv hd)
    | tup _ _ => simp [V.cells] at h
    | bool b => simp only [V.cells, Option.some.injEq] at h; subst h; exact one _ _ (.p (.bool b)) rfl
    | int h1 h2 => simp only [V.cells, Option.some.injEq] at h; subst h; exact one _ _ (.p (.int h1 h2)) rfl
    | str h1 h2 => simp only [V.cells, Option.some.injEq] at h; subst h; exact one _ _ (.p (.str h1 h2)) rfl
    | sl b o h1 h2 h3 h4 h5 h6 h7 => simp only [V.cells, Option.some.injEq] at h; subst h; exact one _ _ (.p (.sl b o h1 h2 h3 h4 h5 h6 h7)) rfl
    | fn f => simp only [V.cells, Option.some.injEq] at h; subst h; exact one _ _ (.p (.fn f)) rfl
    | nilp => simp only [V.cells, Option.some.injEq] at h; subst h; exact one _ _ (.p .nilp) rfl
    | nilf => simp only [V.cells, Option.some.injEq] at h; subst h; exact one _ _ (.p .nilf) rfl
  | dead => simp [V.cells] at h
  | nilsl => simp only [V.cells, Option.some.injEq] at h; subst h; exact one _ _ .nilsl rfl
  | ptr hb => simp only [V.cells, Option.some.injEq] at h; subst h; exact one _ _ (.ptr hb) rfl
  | rptr hb => simp only [V.cells, Option.some.injEq] at h; subst h; exact one _ _ (.rptr hb) rfl
  | cptr h1 h2 => simp only [V.cells, Option.some.injEq] at h; subst h; exact one _ _ (.cptr h1 h2) rfl
  | ms hb h1 => simp only [V.cells, Option.some.injEq] at h; subst h; exact one _ _ (.ms hb h1) h1
  | it hb => simp only [V.cells, Option.some.injEq] at h; subst h; exact one _ _ (.it hb) rfl
  | func h1 h2 h3 h4 => simp only [V.cells, Option.some.injEq] at h; subst h; exact one _ _ (.func h1 h2 h3 h4) rfl
  | agg h1 h2 h3 =>
    simp only [V.cells, Option.some.injEq] at h
    subst h
    exact ⟨by simpa [Value.cells] using h1, h2, h3⟩
  | tuple _ _ => simp [V.cells] at h
  | when _ _ => simp [V.cells] at h
end
end Go.Proofs.YtdploelkmlbhnaaDoor.Sy
