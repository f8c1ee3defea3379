/-
  OUR OWN LAYER, 11: rows: built, made, appended to, written.
-/
import Derived.Test.YtdploelkmlbhnaaDoorCore10
namespace Go.Proofs.YtdploelkmlbhnaaDoor.Sy
open Go

/-- Concrete cells that read as a row of pure elements. -/
structure RowOf (M : FMap) (sz : Nat) (es : List PD) (news : List Value) : Prop where
  len : news.length = es.length * sz
  one : ∀ u ∈ news, u.oneCell' = true
  elem : ∀ (i : Nat) e, es[i]? = some e → e.cells.length = sz
  get : ∀ (i : Nat) e (j : Nat) d u, es[i]? = some e → e.cells[j]? = some d → news[i * sz + j]? = some u → Rd M u d

theorem RowOf.nil (M : FMap) (sz : Nat) : RowOf M sz [] [] := ⟨by simp, fun u h => by simp at h, fun i e h => by simp at h, fun i e j d u h => by simp at h⟩

theorem idx_lt {i n j sz : Nat} (hi : i < n) (hj : j < sz) : i * sz + j < n * sz :=
  calc i * sz + j < i * sz + sz := by omega
    _ = (i + 1) * sz := by rw [Nat.add_mul, Nat.one_mul]
    _ ≤ n * sz := Nat.mul_le_mul_right _ (by omega)

theorem RowOf.append {M : FMap} {sz : Nat} {es fs : List PD} {xs ys : List Value} (h : RowOf M sz es xs) (k : RowOf M sz fs ys) : RowOf M sz (es ++ fs) (xs ++ ys) where
  len := by simp [h.len, k.len, Nat.add_mul]
  one := fun u hu => (List.mem_append.1 hu).elim (h.one u) (k.one u)
  elem := fun i e he => by
    rw [List.getElem?_append] at he
    split at he
    · exact h.elem i e he
    · exact k.elem _ e he
  get := fun i e j d u he hd hu => by
    rw [List.getElem?_append] at he
    split at he
    · rename_i hi
      have hj : j < sz := by rw [← h.elem i e he]; exact (List.getElem?_eq_some_iff.1 hd).1
      have := idx_lt hi hj
      rw [List.getElem?_append, if_pos (by rw [h.len]; exact this)] at hu
      exact h.get i e j d u he hd hu
    · rename_i hi
      have hge : xs.length ≤ i * sz + j := by
        rw [h.len]
        have := Nat.mul_le_mul_right sz (Nat.le_of_not_lt hi)
        omega
      rw [List.getElem?_append, if_neg (by omega), h.len] at hu
      refine k.get (i - es.length) e j d u he hd ?_
      rw [← hu]
      congr 1
      rw [Nat.sub_mul]
      have := Nat.mul_le_mul_right sz (Nat.le_of_not_lt hi)
      omega

section
variable {P : Program} {T : Tab} {G : Glob} {c : Ctx} {M : FMap} {μ : Mu} {st : St} {tmps : Array Value} {w : World}

/-- The box of a row out of its cells. -/
theorem RowOf.box {M : FMap} {μ : Mu} {w : World} {id b cap sz : Nat} {e : TypeId} {es : List PD} {news : List Value} {arr : Array Value} (h : RowOf M sz es news) (h0 : (μ id).blk = some b)
    (hv : (μ id).val = .slice (some ⟨b, 0, none⟩) es.length cap) (hh : w.heap[b]? = some (.cells arr e (0, 0))) (hs : arr.size = cap * sz) (hc : es.length ≤ cap) (hm : cap ≤ maxLen)
    (hone : ∀ (i : Nat) u, arr[i]? = some u → u.oneCell' = true) (hpre : arr.toList.take (es.length * sz) = news) : RBox M μ w id (.row e sz es) := by
  refine .row h0 hv hh hs hc hm hone h.elem fun i e' j d u he hd hu => h.get i e' j d u he hd ?_
  have hi := (List.getElem?_eq_some_iff.1 he).1
  have hj : j < sz := by rw [← h.elem i e' he]; exact (List.getElem?_eq_some_iff.1 hd).1
  rw [← hpre, List.getElem?_take, if_pos (idx_lt hi hj)]
  simpa using hu

/-- The cells of a row that is the call's own. -/
theorem RBox.cells {μ : Mu} {id sz : Nat} {e : TypeId} {es : List PD} (r : RBox M μ w id (.row e sz es)) :
    (es = [] ∧ (μ id).blk = none ∧ ∃ a, (μ id).val = .slice a 0 0) ∨ ∃ b cap arr, (μ id).blk = some b ∧ (μ id).val = .slice (some ⟨b, 0, none⟩) es.length cap ∧ w.heap[b]? = some (.cells arr e (0, 0)) ∧ arr.size = cap * sz ∧ es.length ≤ cap ∧ cap ≤ maxLen ∧
      (∀ (i : Nat) u, arr[i]? = some u → u.oneCell' = true) ∧ RowOf M sz es (arr.toList.take (es.length * sz)) := by
  cases r with
  | rowN h0 hv => exact .inl ⟨rfl, h0, _, hv⟩
  | @row _ _ _ b cap arr h0 hv hh hs hlc hm ho hz hc =>
    refine .inr ⟨b, cap, arr, h0, hv, hh, hs, hlc, hm, ho, ⟨?_, fun u hu => ?_, hz, fun i e' j d u he hd hu => ?_⟩⟩
    · have hal : arr.toList.length = cap * sz := by simp [hs]
      rw [List.length_take, hal, Nat.min_eq_left (Nat.mul_le_mul_right _ hlc)]
    · obtain ⟨j, hj, rfl⟩ := List.mem_iff_getElem.1 (List.mem_of_mem_take hu)
      exact ho j _ (by simp at hj; simp [hj])
    · rw [List.getElem?_take] at hu
      split at hu
      · exact hc i e' j d u he hd (by simpa using hu)
      · cases hu

/-- The cells of a frozen slice. -/
theorem Rd.cells {a : Option Addr} {n cp sz : Nat} {es : List PD} (r : Rd M (.slice a n cp) (.sl sz es)) (hmem : ∀ b o v, M b o = some v → w.cell? ⟨b, o, none⟩ = some v) :
    n = es.length ∧ n ≤ cp ∧ cp ≤ maxLen ∧ ∃ news, RowOf M sz es news ∧ (∀ ad, a = some ad → ∀ (j : Nat) u, news[j]? = some u → w.cell? (ad.add j) = some u) ∧ (a = none → n = 0) := by
  cases r with
  | @sl _ _ _ _ _ b o hn hnc hcm ha hz hex hrd =>
    refine ⟨hn, hnc, hcm, ?_⟩
    by_cases h0 : n = 0
    · have : es = [] := List.eq_nil_of_length_eq_zero (by omega)
      subst this
      exact ⟨[], RowOf.nil M sz, fun ad _ j u h => by simp at h, fun _ => h0⟩
    · have hb : ∀ k, k < n * sz → ∃ u, M b (o + k) = some u ∧ u.oneCell' = true := by
        intro k hk
        have hsz : 0 < sz := by
          rcases Nat.eq_zero_or_pos sz with h | h
          · subst h; simp at hk
          · exact h
        have hi : k / sz < es.length := by rw [← hn]; exact (Nat.div_lt_iff_lt_mul hsz).2 hk
        obtain ⟨u, hu, h1⟩ := hex (k / sz) es[k / sz] (k % sz) (by simp [hi]) (Nat.mod_lt _ hsz)
        refine ⟨u, ?_, h1⟩
        rw [← hu]; congr 1
        have := Nat.div_add_mod k sz
        rw [Nat.mul_comm] at this
        omega
      refine ⟨(List.range (n * sz)).map fun k => (M b (o + k)).getD undef, ⟨by simp [hn], fun u hu => ?_, hz, fun i e j d u he hd hu => ?_⟩, fun ad had j u hu => ?_, fun e => absurd (ha h0) (by rw [e]; simp)⟩
      · obtain ⟨k, hk, rfl⟩ := List.mem_map.1 hu
        obtain ⟨u', hu', h1⟩ := hb k (List.mem_range.1 hk)
        rw [hu']; exact h1
      · obtain ⟨hk, rfl⟩ := getElem?_range_map _ _ _ _ hu
        obtain ⟨u', hu', _⟩ := hb _ hk
        rw [hu']
        exact hrd i e j d _ he hd (by rw [← Nat.add_assoc] at hu'; exact hu')
      · obtain ⟨hk, rfl⟩ := getElem?_range_map _ _ _ _ hu
        obtain ⟨u', hu', _⟩ := hb _ hk
        have := ha h0
        rw [had] at this
        cases this
        rw [add_eq, hmem _ _ _ hu', hu']
        rfl

/-- What is appended: pure elements, as cells. -/
def srcOf (st : St) (t : Option TK) (x : V) : Option (Nat × List PD) :=
  match t, x with
  | some (.sl _), .p (.sl sz es) => some (sz, es)
  | some (.sl _), .ms id => match boxOf id st.H with
    | some (.row _ sz es) => some (sz, es)
    | _ => none
  | some .str, .p (.str s) => some (1, s.map fun b => .int .u8 b.toNat)
  | _, _ => none

theorem byte_rd (M : FMap) (b : UInt8) : Rd M (.int .u8 b.toNat) (.int .u8 b.toNat) := Rd.intOf (by simp [kmin]) (by have := b.toNat_lt; simp only [kmax]; omega)

theorem src_run (hT : TOK P T) (r : Rel c M μ st tmps w) {t : TypeId} {x : V} {sz : Nat} {es : List PD} (h : srcOf st (tkOf T t) x = some (sz, es)) {u : Value} (hu : RV M μ u x) :
    ∃ news, Src P sz t u es.length news w ∧ RowOf M sz es news := by
  unfold srcOf at h
  split at h
  · rename_i el sz' es' hk
    cases h
    have hd := hT.sl hk
    cases hu with
    | p hu =>
    cases hu with
    | @sl a n cp _ _ b o hn hnc hcm ha hz hex hrd =>
    have hr : Rd M (.slice a n cp) (.sl sz es) := .sl b o hn hnc hcm ha hz hex hrd
    obtain ⟨h1, _, _, news, hrow, hc, hnil⟩ := hr.cells r.mem
    subst h1
    refine ⟨news, ?_, hrow⟩
    cases a with
    | none =>
      have h0 := hnil rfl
      have : es = [] := List.eq_nil_of_length_eq_zero h0
      subst this
      have : news = [] := List.eq_nil_of_length_eq_zero (by rw [hrow.len]; simp)
      subst this
      exact Src.ofNil w hd cp
    | some ad => exact Src.ofSlice w hd ad es.length cp news hrow.len (hc ad rfl) hrow.one
  · rename_i el id hk
    have hd := hT.sl hk
    split at h
    · rename_i e sz' es' hb
      cases h
      cases hu with
      | ms hval _ =>
      rcases (r.box id _ (boxOf_mem hb)).cells with ⟨rfl, h0, a, hv⟩ | ⟨b, cap, arr, h0, hv, hh, hs, hlc, hm, ho, hrow⟩
      · rw [hv] at hval; subst hval
        refine ⟨[], ?_, RowOf.nil M sz⟩
        cases a with
        | none => exact Src.ofNil w hd 0
        | some ad => exact Src.ofSlice w hd ad 0 0 [] (by simp) (fun j u h => by simp at h) (fun u h => by simp at h)
      · rw [hv] at hval; subst hval
        refine ⟨_, Src.ofSlice w hd ⟨b, 0, none⟩ es.length cap _ hrow.len (fun j u hu => ?_) hrow.one, hrow⟩
        rw [List.getElem?_take] at hu
        split at hu
        · rw [add_eq, Nat.zero_add, cell_of_block hh]; simpa using hu
        · cases hu
    · cases h
  · rename_i s hk
    cases h
    have hd := hT.str hk
    cases hu with
    | p hu =>
    cases hu with
    | @str b _ hs hm =>
    refine ⟨byteCells b, ?_, ?_⟩
    · have := Src.ofString w hd b
      simpa [str_size hs] using this
    · have hbc : byteCells b = s.map fun b => Value.int .u8 b.toNat := by unfold byteCells; rw [hs]
      rw [hbc]
      refine ⟨by simp, fun u hu => by obtain ⟨_, _, rfl⟩ := List.mem_map.1 hu; rfl, fun i e he => ?_, fun i e j d u he hd' hu => ?_⟩
      · rw [List.getElem?_map] at he
        obtain ⟨b', _, rfl⟩ := Option.map_eq_some_iff.1 he
        rfl
      · rw [List.getElem?_map] at he
        obtain ⟨b', hb', rfl⟩ := Option.map_eq_some_iff.1 he
        simp only [PD.cells] at hd'
        have hj0 : j = 0 := by
          have := (List.getElem?_eq_some_iff.1 hd').1
          simpa using this
        subst hj0
        simp at hd'
        subst hd'
        rw [Nat.mul_one, Nat.add_zero, List.getElem?_map, hb'] at hu
        cases hu
        exact byte_rd M b'
  · cases h

theorem run_append_room_row (w : World) (t tx ty e : TypeId) (i : TypeInfo) (ht : P.underlying t = some (.slice e)) (hi : P.info? e = some i) (g sLen sCap : Nat) (cur : Array Value) (hg : w.heap[g]? = some (.cells cur e (0, 0)))
    (x : Value) (n : Nat) (news : List Value) (hs : Src P i.size tx x n news w) (hroom : sLen + n ≤ sCap) (hfit : sLen * i.size + news.length ≤ cur.size) :
    (Builtin.append_ #[t, tx] ty #[.slice (some ⟨g, 0, none⟩) sLen sCap, x]).run P w =
      .ok (.slice (some ⟨g, 0, none⟩) (sLen + n) sCap) (w.setRow g (cur.toList.take (sLen * i.size) ++ news ++ cur.toList.drop (sLen * i.size + news.length)).toArray) := by
  have hst := run_storeCells_at P g (sLen * i.size) e news 0 cur w hg (by simpa using hfit) hs.one
  simp only [Nat.add_zero] at hst
  rcases hs.kind with ⟨e', hk⟩ | hk <;> simp [Builtin.append_, run_underlying ht, run_underlying hk, sizeOf, typeInfo, hi, hs.len, hroom, hs.cells, Addr.add_lit, hst]

theorem run_append_none (w : World) (t tx ty e : TypeId) (i : TypeInfo) (ht : P.underlying t = some (.slice e)) (hi : P.info? e = some i) (a : Option Addr) (x : Value) (hs : Src P i.size tx x 0 [] w) :
    (Builtin.append_ #[t, tx] ty #[.slice a 0 0, x]).run P w = .ok (.slice a 0 0) w := by
  rcases hs.kind with ⟨e', hk⟩ | hk <;> cases a <;> simp [Builtin.append_, run_underlying ht, run_underlying hk, sizeOf, typeInfo, hi, hs.len, hs.cells, storeCells]

theorem zeroCells_one {z : Array Value} (h : ∀ (i : Nat) u, z[i]? = some u → u.oneCell' = true) (n : Nat) : ∀ (i : Nat) u, (Builtin.zeroCells z n)[i]? = some u → u.oneCell' = true := by
  intro i u hu
  unfold Builtin.zeroCells at hu
  rw [Array.getElem?_map] at hu
  obtain ⟨k, hk, rfl⟩ := Option.map_eq_some_iff.1 hu
  have hk' : k < n * z.size := by
    have h1 := Array.getElem?_eq_some_iff.1 hk
    obtain ⟨h2, h3⟩ := h1
    simp at h2 h3
    omega
  have hz : 0 < z.size := by
    rcases Nat.eq_zero_or_pos z.size with h0 | h0
    · rw [h0] at hk'; simp at hk'
    · exact h0
  have hlt := Nat.mod_lt k hz
  have : z[k % z.size]! = z[k % z.size] := by simp [hlt]
  rw [this]
  exact h (k % z.size) _ (by simp [hlt])

/-- An append to a row of the call's own ('es' so far), or to a slice that owns nothing. -/
theorem append_core (hT : TOK P T) (r : Rel c M μ st tmps w) {t tx ty el : TypeId} (ht : tkOf T t = some (.sl el)) {ti : TI} (hti : T el = some ti) {zs : List V} (hzs : ti.zero.cells = some zs) (hzl : zs.length = ti.size)
    (hby : 0 < ti.bytes) {es fs : List PD} {v x : Value} {news : List Value} (hs : Src P ti.size tx x fs.length news w) (hrow : RowOf M ti.size fs news) (hbound : (es.length + fs.length) * ti.bytes ≤ 140737488355328)
    (id : Nat) (hf : st.fresh id = true)
    (hv : (es = [] ∧ ∃ a, v = .slice a 0 0) ∨ ∃ b cap arr, c.mine b ∧ (∀ o, M b o = none) ∧ (∀ j, keyIn j st.H = true → (μ j).blk ≠ some b) ∧ v = .slice (some ⟨b, 0, none⟩) es.length cap ∧
      w.heap[b]? = some (.cells arr el (0, 0)) ∧ arr.size = cap * ti.size ∧ es.length ≤ cap ∧ cap ≤ maxLen ∧ (∀ (i : Nat) u, arr[i]? = some u → u.oneCell' = true) ∧ RowOf M ti.size es (arr.toList.take (es.length * ti.size))) :
    ∃ u w' μ', (Builtin.append_ #[t, tx] ty #[v, x]).run P w = .ok u w' ∧ Rel c M μ' { st with H := (id, .row el ti.size (es ++ fs)) :: st.H } tmps w' ∧ RV M μ' u (.ms id) := by
  obtain ⟨z, hzr, hzc, i, hi, hz, hisz, hiby⟩ := run_zero hT hti hzs M μ w
  have hd := hT.sl ht
  rw [← hisz] at hs
  have hlen : es.length + fs.length ≤ 140737488355328 := Nat.le_trans (Nat.le_mul_of_pos_right _ hby) hbound
  -- a new block for all of it
  have grow : ∀ (a : Option Addr) (cap : Nat) (olds : List Value), (Builtin.firstCells i.size es.length (.slice a es.length cap)).run P w.drew = .ok olds.toArray w.drew → RowOf M ti.size es olds → cap < es.length + fs.length →
      ∃ u w' μ', (Builtin.append_ #[t, tx] ty #[.slice a es.length cap, x]).run P w = .ok u w' ∧ Rel c M μ' { st with H := (id, .row el ti.size (es ++ fs)) :: st.H } tmps w' ∧ RV M μ' u (.ms id) := by
    intro a cap olds hold hro hlt
    have hrun := run_append_grow_src (P := P) w t tx ty el i z hd hi hz a es.length cap olds hold x fs.length news hs hlt (by omega) (growslice_fits hlt (by rw [hiby]; exact hbound))
    have hge := grownCap_ge w (es.length + fs.length) cap el
    have hcm := grownCap_le_maxLen w (es.length + fs.length) cap el (by simp [maxLen]; omega)
    refine ⟨_, _, upd μ id ⟨some w.heap.size, .slice (some ⟨w.heap.size, 0, none⟩) (es.length + fs.length) (grownCap w (es.length + fs.length) cap el)⟩, hrun, ?_, .ms (by rw [upd_same]) rfl⟩
    have hall := hro.append hrow
    refine r.newBox hf ((Grows.drew w).trans (Grows.alloc _ _)) (fun b hb => by cases hb; exact ⟨Nat.le_refl _, by simp⟩) ?_ rfl
    refine hall.box (b := w.heap.size) (cap := grownCap w (es.length + fs.length) cap el) (by rw [upd_same]) (by rw [upd_same]; simp) (heap_alloc_new w.drew _) ?_ (by simp; exact hge) hcm (fun j u hu => ?_) ?_
    · have hzz : z.cells.size = ti.size := by
        have := hzc.size
        omega
      rw [Array.size_append, size_zeroCells, hzz, List.size_toArray, hall.len, List.length_append, ← Nat.add_mul]
      congr 1; omega
    · rw [Array.getElem?_append] at hu
      split at hu
      · exact hall.one u (by rw [List.getElem?_toArray] at hu; exact List.mem_of_getElem? hu)
      · exact zeroCells_one hzc.one _ _ u hu
    · rw [Array.toList_append, List.take_append_of_le_length (by rw [hall.len]; exact Nat.le_refl _), List.take_of_length_le (by rw [hall.len]; exact Nat.le_refl _)]
  rcases hv with ⟨rfl, a, rfl⟩ | ⟨b, cap, arr, hB, hMb, hnb, rfl, hh, has, hlc, hcm, hone, hro⟩
  · by_cases hfs : fs = []
    · subst hfs
      have hnews : news = [] := List.eq_nil_of_length_eq_zero (by rw [hrow.len]; simp)
      subst hnews
      have hrun := run_append_none (P := P) w t tx ty el i hd hi a x hs
      refine ⟨_, w, upd μ id ⟨none, .slice a 0 0⟩, hrun, r.adopt hf (fun b hb => by cases hb) (.rowN (by rw [upd_same]) (by rw [upd_same])), .ms (by rw [upd_same]) rfl⟩
    · have h0 : 0 < fs.length := List.length_pos_iff.2 hfs
      refine grow a 0 [] ?_ (RowOf.nil M ti.size) (by simpa using h0)
      cases a <;> simp [Builtin.firstCells, loadCells, loadCellsFrom]
  · by_cases hroom : es.length + fs.length ≤ cap
    · have hall := hro.append hrow
      have hnl := hrow.len
      have hfit : es.length * i.size + news.length ≤ arr.size := by
        rw [hnl, has, hisz, ← Nat.add_mul]; exact Nat.mul_le_mul_right _ hroom
      have hrun := run_append_room_row (P := P) w t tx ty el i hd hi b es.length cap arr hh x fs.length news hs hroom hfit
      refine ⟨_, _, upd μ id ⟨some b, .slice (some ⟨b, 0, none⟩) (es.length + fs.length) cap⟩, hrun, ?_, .ms (by rw [upd_same]) rfl⟩
      have hblt : b < w.heap.size := (Array.getElem?_eq_some_iff.1 hh).1
      have r1 := r.turn hB hMb hnb (setRow_turned w b (arr.toList.take (es.length * i.size) ++ news ++ arr.toList.drop (es.length * i.size + news.length)).toArray)
      refine r1.adopt hf (fun b' hb' => by cases hb'; exact ⟨hB, by simpa using hblt, hMb, hnb⟩) ?_
      rw [hisz] at hfit ⊢
      have hal : (arr.toList.take (es.length * ti.size)).length = es.length * ti.size := hro.len
      refine hall.box (b := b) (cap := cap) (by rw [upd_same]) (by rw [upd_same]; simp) (setRow_heap w b arr _ el (0, 0) hh) ?_ (by simp; exact hroom) hcm (fun j u hu => ?_) ?_
      · simp only [List.size_toArray, List.length_append, List.length_drop, Array.length_toList, hal]
        omega
      · rw [List.getElem?_toArray] at hu
        have := List.mem_of_getElem? hu
        rcases List.mem_append.1 this with h | h
        · exact hall.one u h
        · obtain ⟨k, hk, rfl⟩ := List.mem_iff_getElem.1 (List.mem_of_mem_drop h)
          exact hone k _ (by simp at hk; simp [hk])
      · rw [List.take_append_of_le_length (by rw [hall.len]; exact Nat.le_refl _), List.take_of_length_le (by rw [hall.len]; exact Nat.le_refl _)]
    · refine grow (some ⟨b, 0, none⟩) cap _ ?_ hro (by omega)
      exact run_firstCells_some (P := P) w.drew i.size es.length ⟨b, 0, none⟩ es.length cap _ (by rw [hro.len, hisz]) (fun j u hu => by
        rw [List.getElem?_take] at hu
        split at hu
        · rw [add_eq, Nat.zero_add]
          show w.cell? ⟨b, j, none⟩ = _
          rw [cell_of_block hh]; simpa using hu
        · cases hu)
end
end Go.Proofs.YtdploelkmlbhnaaDoor.Sy
