import Derived.Test.YtdlejiiiifhiiaaGreatDoorSBackA
/-
  A PLAIN LAW: what was printed is read as it was, without its masks.
-/
namespace Go.Proofs.YtdlejiiiifhiiaaGreatDoor
open Sy Go
set_option linter.unusedSimpArgs false
set_option linter.unusedVariables false
/-- What a value's text begins with. -/
def headOK (b : UInt8) : Bool := !isBl b && b != 93 && b != 125
/-- No poison in it. -/
def cleanV (v : Val) : Prop := v.kind ≠ 8
theorem depL_max : ∀ (l : List Val) (m : Nat), depL m l = max m (depL 0 l)
  | [], m => by simp
  | v :: l, m => by simp only [depL]; rw [depL_max l (max m (depV v)), depL_max l (max 0 (depV v))]; omega
theorem depL_cons (v : Val) (l : List Val) : depL 0 (v :: l) = max (depV v) (depL 0 l) := by
  simp only [depL]; rw [depL_max]; omega
mutual
/-- Is there poison? -/
def poiV : Val → Bool
  | .mk k _ _ _ _ vs _ => decide (k = 8) || poiL vs
def poiL : List Val → Bool
  | [] => false
  | v :: vs => poiV v || poiL vs
end
theorem poiL_any : ∀ l, poiL l = l.any poiV
  | [] => by simp [poiL]
  | v :: vs => by simp [poiL, poiL_any vs]
theorem poiV_eq (v : Val) : poiV v = (decide (v.kind = 8) || v.kids.any poiV) := by
  cases v; simp only [poiV, poiL_any, Val.kids, Val.kind]; rfl
theorem poi_kid {v k : Val} (h : poiV v = false) (hk : k ∈ v.kids) : poiV k = false := by
  rw [poiV_eq, Bool.or_eq_false_iff] at h
  have := List.any_eq_false.1 h.2 k hk
  simpa using this
theorem poi_kind {v : Val} (h : poiV v = false) : v.kind ≠ 8 := by
  rw [poiV_eq, Bool.or_eq_false_iff] at h
  simpa using h.1
/-- A value's parts, by its kind. -/
theorem may_cases {v : Val} (h : mayT v = true) (hc : v.kind ≠ 8) : v.code = 0 ∧ v.kids.length ≤ 200 ∧
    ((v.kind = 1 ∧ v.num = dc0 ∧ v.text = [] ∧ v.keys = [] ∧ v.kids = []) ∨ (v.kind = 2 ∧ v.num = dc0 ∧ v.text = [] ∧ v.keys = [] ∧ v.kids = []) ∨ (v.kind = 3 ∧ v.num = dc0 ∧ v.text = [] ∧ v.keys = [] ∧ v.kids = []) ∨
     (v.kind = 4 ∧ dcMay v.num = true ∧ v.text = [] ∧ v.keys = [] ∧ v.kids = []) ∨ (v.kind = 5 ∧ v.num = dc0 ∧ wordT v.text = true ∧ v.keys = [] ∧ v.kids = []) ∨
     (v.kind = 6 ∧ v.num = dc0 ∧ v.text = [] ∧ v.keys = []) ∨ (v.kind = 7 ∧ v.num = dc0 ∧ v.text = [] ∧ v.keys.length = v.kids.length ∧ keysT v.keys = true)) := by
  rw [mayT_eq] at h
  simp only [Bool.and_eq_true, boundsT, partsT, decide_eq_true_eq] at h
  obtain ⟨⟨⟨b1, b2, b3⟩, ⟨⟨⟨⟨c1, c2⟩, c3⟩, c4⟩, c5⟩⟩, _⟩ := h
  have hcode : v.code = 0 := by
    unfold codeT at c1
    simp [hc] at c1
    exact c1
  refine ⟨hcode, b3, ?_⟩
  unfold numT at c2
  unfold textT at c3
  unfold namedT at c4
  unfold kidsT at c5
  have hnum : v.kind ≠ 4 → v.num = dc0 := fun h4 => by
    rw [if_neg h4] at c2
    simp only [decide_eq_true_eq] at c2
    exact Dc.ext' c2.1 c2.2.1 c2.2.2
  have htxt : v.kind ≠ 5 → v.text = [] := fun h4 => by rw [if_neg h4] at c3; simpa using c3
  have hkey : v.kind ≠ 7 → v.keys = [] := fun h4 => by rw [if_neg h4] at c4; simpa using c4
  have hkid : v.kind ≠ 6 → v.kind ≠ 7 → v.kids = [] := fun h6 h7 => by simpa [h6, h7] using c5
  have hk : v.kind = 1 ∨ v.kind = 2 ∨ v.kind = 3 ∨ v.kind = 4 ∨ v.kind = 5 ∨ v.kind = 6 ∨ v.kind = 7 := by omega
  rcases hk with k | k | k | k | k | k | k
  · exact .inl ⟨k, hnum (by omega), htxt (by omega), hkey (by omega), hkid (by omega) (by omega)⟩
  · exact .inr (.inl ⟨k, hnum (by omega), htxt (by omega), hkey (by omega), hkid (by omega) (by omega)⟩)
  · exact .inr (.inr (.inl ⟨k, hnum (by omega), htxt (by omega), hkey (by omega), hkid (by omega) (by omega)⟩))
  · rw [if_pos k] at c2
    exact .inr (.inr (.inr (.inl ⟨k, c2, htxt (by omega), hkey (by omega), hkid (by omega) (by omega)⟩)))
  · rw [if_pos k] at c3
    exact .inr (.inr (.inr (.inr (.inl ⟨k, hnum (by omega), c3, hkey (by omega), hkid (by omega) (by omega)⟩))))
  · exact .inr (.inr (.inr (.inr (.inr (.inl ⟨k, hnum (by omega), htxt (by omega), hkey (by omega)⟩)))))
  · rw [if_pos k] at c4
    simp only [Bool.and_eq_true, decide_eq_true_eq] at c4
    exact .inr (.inr (.inr (.inr (.inr (.inr ⟨k, hnum (by omega), htxt (by omega), by omega, c4.2⟩)))))
theorem bare_of {v : Val} {k : Int} {n : Dc} {t : List UInt8} {ks : List (List UInt8)} (h0 : v.code = 0) (h1 : v.kind = k) (h2 : v.num = n) (h3 : v.text = t) (h4 : v.keys = ks) : bareV v = .mk k 0 n t ks (v.kids.map bareV) 0 := by
  refine Val.ext ?_ ?_ ?_ ?_ ?_ ?_ ?_ <;> simp [h0, h1, h2, h3, h4]
/-- What is printed begins with something. -/
theorem print_head {v : Val} (h : mayT v = true) : ∃ b t, printT v = b :: t ∧ isBl b = false ∧ b ≠ 93 ∧ b ≠ 125 := by
  rw [printT_eq]
  by_cases h1 : v.kind = 1
  · rw [if_pos h1]; exact ⟨_, _, rfl, by decide⟩
  · rw [if_neg h1]
    by_cases h2 : v.kind = 2
    · rw [if_pos h2]; exact ⟨_, _, rfl, by decide⟩
    · rw [if_neg h2]
      by_cases h3 : v.kind = 3
      · rw [if_pos h3]; exact ⟨_, _, rfl, by decide⟩
      · rw [if_neg h3]
        by_cases h4 : v.kind = 4
        · rw [if_pos h4]
          have := parseL_print (may_num h h4)
          obtain ⟨_, b, t, e, hb⟩ := parse_num (s := PrintM v.num) (by rw [this]; simp)
          have := dig_bl hb
          exact ⟨b, t, e, this.1, this.2.2.2.2.2.2.2.1, this.2.2.2.2.2.2.2.2.1⟩
        · rw [if_neg h4]
          by_cases h5 : v.kind = 5
          · rw [if_pos h5]; exact ⟨_, _, rfl, by decide⟩
          · rw [if_neg h5]
            by_cases h8 : v.kind = 8
            · rw [if_pos h8]; exact ⟨_, _, rfl, by decide⟩
            · rw [if_neg h8]
              by_cases h7 : v.kind = 7
              · rw [if_pos h7]; exact ⟨_, _, rfl, by decide⟩
              · rw [if_neg h7]; exact ⟨_, _, rfl, by decide⟩
/-- It is read as it was. -/
def RB (v : Val) : Prop := ∀ (n : Nat) (ws : List UInt8) (st : RS) (d : Nat) (rest : List UInt8), st.left = ws ++ (printT v ++ rest) → ws.all isBl = true → st.bad = false → (∀ b, rest.head? = some b → numl b = false) → 2 * (printT v).length ≤ n →
    valR n st d = (⟨rest, st.nodes + Val.sz v, false, st.deep || decide (12 < d + depV v - 1), st.big || decide (400 < st.nodes + Val.sz v)⟩, bareV v)
theorem flag_deep (x : Bool) {d a b m : Nat} (hm : m = max a b) (ha : 1 ≤ a) : ((x || decide (12 < d + a - 1)) || decide (12 < d + b - 1)) = (x || decide (12 < d + m - 1)) := by
  cases x
  · rw [Bool.false_or, Bool.false_or, Bool.eq_iff_iff]
    simp only [Bool.or_eq_true, decide_eq_true_eq]
    rcases Nat.le_total a b with h | h
    · rw [Nat.max_eq_right h] at hm; omega
    · rw [Nat.max_eq_left h] at hm; omega
  · rfl
theorem flag_big (x : Bool) {n a b m : Nat} (hm : m = a + b) : ((x || decide (400 < n + a)) || decide (400 < n + a + b)) = (x || decide (400 < n + m)) := by
  cases x
  · rw [Bool.false_or, Bool.false_or, Bool.eq_iff_iff]
    simp only [Bool.or_eq_true, decide_eq_true_eq]
    omega
  · rfl
theorem flag_deep2 (x : Bool) {d a : Nat} (ha : 1 ≤ a) : ((x || decide (12 < d)) || decide (12 < d + 1 + a - 1)) = (x || decide (12 < d + (a + 1) - 1)) := by
  cases x
  · rw [Bool.false_or, Bool.false_or, Bool.eq_iff_iff]
    simp only [Bool.or_eq_true, decide_eq_true_eq]
    omega
  · rfl
theorem flag_big2 (x : Bool) {n a : Nat} : ((x || decide (400 < n + 1)) || decide (400 < n + 1 + a)) = (x || decide (400 < n + (1 + a))) := by
  cases x
  · rw [Bool.false_or, Bool.false_or, Bool.eq_iff_iff]
    simp only [Bool.or_eq_true, decide_eq_true_eq]
    omega
  · rfl
theorem read_list (l : List Val) : l ≠ [] → (∀ k ∈ l, RB k) → ∀ (n : Nat) (st : RS) (d many : Nat) (vs : List Val) (rest : List UInt8), st.left = Lib.join (l.map printT) [44] ++ 93 :: rest → st.bad = false → many + l.length ≤ 201 → 2 * (Lib.join (l.map printT) [44]).length + 2 ≤ n →
    lstR n st d many vs = (⟨rest, st.nodes + Val.szL l, false, st.deep || decide (12 < d + depL 0 l - 1), st.big || decide (400 < st.nodes + Val.szL l)⟩, vs ++ l.map bareV) := by
  induction l with
  | nil => intro h0; exact absurd rfl h0
  | cons v l IH =>
    intro _ ih n st d many vs rest hl hb hm hn
    obtain ⟨n, rfl⟩ : ∃ k, n = k + 1 := ⟨n - 1, by omega⟩
    cases l with
    | nil =>
      simp only [List.map_cons, List.map_nil, Lib.join_one] at hl hn
      have h1 := ih v (by simp) n [] st d (93 :: rest) hl rfl hb (by intro b hb; simp at hb; subst hb; rfl) (by omega)
      simp only [lstR, hb, Bool.false_eq_true, if_false]
      rw [h1, sep_end (ws := []) (rest := rest) rfl rfl rfl (by decide) (by simp at hm; omega)]
      simp [depL]
    | cons w l =>
      simp only [List.map_cons, join_cons2] at hl hn
      rw [List.append_assoc, List.append_assoc] at hl
      rw [List.length_append, List.length_append] at hn
      have h1 := ih v (by simp) n [] st d _ hl rfl hb (by intro b hb; simp at hb; subst hb; rfl) (by simp at hn; omega)
      simp only [lstR, hb, Bool.false_eq_true, if_false]
      rw [h1, sep_more (ws := []) rfl rfl rfl (by decide) (by simp at hm; omega)]
      simp only [Bool.false_eq_true, if_false]
      rw [IH (by simp) (fun k hk => ih k (List.mem_cons_of_mem _ hk)) n _ d (many + 1) _ rest (by simp) rfl (by simp at hm ⊢; omega) (by simp only [List.map_cons]; simp at hn; omega)]
      refine Prod.ext ?_ (by simp)
      simp only [RS.mk.injEq, true_and]
      exact ⟨by simp only [Val.szL]; omega, flag_deep _ (depL_cons v (w :: l)) (dep_pos v), flag_big _ (by simp only [Val.szL])⟩
/-- One member of an object. -/
theorem obj_one {n : Nat} {st : RS} {d many : Nat} {ks : List (List UInt8)} {vs : List Val} {key ws1 ws2 ws3 R : List UInt8} {v : Val} (hv : RB v) (hk : wordT key = true) (hl : st.left = ws1 ++ (quoteT key ++ (ws2 ++ 58 :: (ws3 ++ (printT v ++ R)))))
    (hw1 : ws1.all isBl = true) (hw2 : ws2.all isBl = true) (hw3 : ws3.all isBl = true) (hb : st.bad = false) (hR : ∀ b, R.head? = some b → numl b = false) (hn : 2 * (printT v).length ≤ n) :
    objR (n + 1) st d many ks vs = (let a : RS := ⟨R, st.nodes + Val.sz v, false, st.deep || decide (12 < d + depV v - 1), st.big || decide (400 < st.nodes + Val.sz v)⟩
      if (sepR 125 many a).1 = true then ((sepR 125 many a).2, putM ks vs key (bareV v)) else objR n (sepR 125 many a).2 d (many + 1) (putM ks vs key (bareV v)).1 (putM ks vs key (bareV v)).2) := by
  obtain ⟨left, nodes, bad, deep, big⟩ := st
  simp only at hl hb
  subst hb
  have hq := quoted_back (st := ⟨left, nodes, false, deep, big⟩) hl hw1 hk
  have hc : colonR ⟨ws2 ++ 58 :: (ws3 ++ (printT v ++ R)), nodes, false, deep, big⟩ = ⟨ws3 ++ (printT v ++ R), nodes, false, deep, big⟩ := colon_back rfl hw2 rfl
  have h1 := hv n ws3 ⟨ws3 ++ (printT v ++ R), nodes, false, deep, big⟩ d R rfl hw3 rfl hR hn
  simp only at hq hc h1
  simp only [objR, hq, hc, h1, Bool.false_eq_true, if_false]
theorem putM_new {ks : List (List UInt8)} {vs : List Val} {key : List UInt8} {v : Val} (h : key ∉ ks) : putM ks vs key v = (ks ++ [key], vs ++ [v]) := by unfold putM; rw [if_neg h]
theorem ent_cons (key : List UInt8) (keys : List (List UInt8)) (p : List UInt8) (ps : List (List UInt8)) : entT (key :: keys) (p :: ps) = (quoteT key ++ [58] ++ p) :: entT keys ps := rfl
theorem read_obj (l : List Val) : ∀ (keys : List (List UInt8)), keys.length = l.length → l ≠ [] → (∀ k ∈ l, RB k) → (∀ s ∈ keys, wordT s = true) → ∀ (n : Nat) (st : RS) (d many : Nat) (ks : List (List UInt8)) (vs : List Val) (rest : List UInt8), (ks ++ keys).Nodup →
    st.left = Lib.join (entT keys (l.map printT)) [44] ++ 125 :: rest → st.bad = false → many + l.length ≤ 201 → 2 * (Lib.join (entT keys (l.map printT)) [44]).length + 2 ≤ n →
    objR n st d many ks vs = (⟨rest, st.nodes + Val.szL l, false, st.deep || decide (12 < d + depL 0 l - 1), st.big || decide (400 < st.nodes + Val.szL l)⟩, ks ++ keys, vs ++ l.map bareV) := by
  induction l with
  | nil => intro _ _ h0; exact absurd rfl h0
  | cons v l IH =>
    intro keys hlen _ ih hk n st d many ks vs rest hnd hl hb hm hn
    obtain ⟨n, rfl⟩ : ∃ k, n = k + 1 := ⟨n - 1, by omega⟩
    cases keys with
    | nil => simp at hlen
    | cons key keys =>
      have hnk : key ∉ ks := fun hin => (List.nodup_append.1 hnd).2.2 key hin key (by simp) rfl
      cases l with
      | nil =>
        obtain rfl : keys = [] := by simpa using hlen
        simp only [List.map_cons, List.map_nil] at hl hn
        rw [ent_cons] at hl hn
        rw [show entT [] [] = [] from rfl, Lib.join_one] at hl hn
        rw [obj_one (ws1 := []) (ws2 := []) (ws3 := []) (R := 125 :: rest) (ih v (by simp)) (hk key (by simp)) (by rw [hl]; simp) rfl rfl rfl hb (by intro b hb; simp at hb; subst hb; rfl) (by simp at hn; omega)]
        simp only
        rw [sep_end (ws := []) (rest := rest) rfl rfl rfl (by decide) (by simp at hm; omega), putM_new hnk]
        simp [depL]
      | cons w l =>
        cases keys with
        | nil => simp at hlen
        | cons key2 keys =>
          have hE : entT (key :: key2 :: keys) ((v :: w :: l).map printT) = (quoteT key ++ [58] ++ printT v) :: (quoteT key2 ++ [58] ++ printT w) :: entT keys (l.map printT) := rfl
          have hE2 : entT (key2 :: keys) ((w :: l).map printT) = (quoteT key2 ++ [58] ++ printT w) :: entT keys (l.map printT) := rfl
          rw [hE, join_cons2, ← hE2] at hl hn
          generalize hJ : Lib.join (entT (key2 :: keys) ((w :: l).map printT)) [44] = J at *
          rw [obj_one (ws1 := []) (ws2 := []) (ws3 := []) (R := 44 :: (J ++ 125 :: rest)) (ih v (by simp)) (hk key (by simp)) (by rw [hl]; simp) rfl rfl rfl hb (by intro b hb; simp at hb; subst hb; rfl) (by simp at hn; omega)]
          simp only
          rw [sep_more (ws := []) (rest := J ++ 125 :: rest) rfl rfl rfl (by decide) (by simp at hm; omega), putM_new hnk]
          simp only [Bool.false_eq_true, if_false]
          rw [IH (key2 :: keys) (by simpa using hlen) (by simp) (fun k hk => ih k (List.mem_cons_of_mem _ hk)) (fun s hs => hk s (List.mem_cons_of_mem _ hs)) n _ d (many + 1) _ _ rest (by simpa using hnd) (by rw [hJ]) rfl (by simp at hm ⊢; omega) (by rw [hJ]; simp at hn; omega)]
          refine Prod.ext ?_ (by simp)
          simp only [RS.mk.injEq, true_and]
          exact ⟨by simp only [Val.szL]; omega, flag_deep _ (depL_cons v (w :: l)) (dep_pos v), flag_big _ (by simp only [Val.szL])⟩
theorem print1 {v : Val} (k : v.kind = 1) : printT v = wNull := by rw [printT_eq, if_pos k]
theorem print2 {v : Val} (k : v.kind = 2) : printT v = wFalse := by rw [printT_eq, if_neg (by omega), if_pos k]
theorem print3 {v : Val} (k : v.kind = 3) : printT v = wTrue := by rw [printT_eq, if_neg (by omega), if_neg (by omega), if_pos k]
theorem print4 {v : Val} (k : v.kind = 4) : printT v = PrintM v.num := by rw [printT_eq, if_neg (by omega), if_neg (by omega), if_neg (by omega), if_pos k]
theorem print5 {v : Val} (k : v.kind = 5) : printT v = quoteT v.text := by rw [printT_eq, if_neg (by omega), if_neg (by omega), if_neg (by omega), if_neg (by omega), if_pos k]
theorem print8 {v : Val} (k : v.kind = 8) : printT v = 33 :: itoa2 v.code := by rw [printT_eq, if_neg (by omega), if_neg (by omega), if_neg (by omega), if_neg (by omega), if_neg (by omega), if_pos k]
theorem print7 {v : Val} (k : v.kind = 7) : printT v = [123] ++ Lib.join (entT v.keys (v.kids.map printT)) [44] ++ [125] := by rw [printT_eq, if_neg (by omega), if_neg (by omega), if_neg (by omega), if_neg (by omega), if_neg (by omega), if_neg (by omega), if_pos k]
theorem print6 {v : Val} (k : v.kind = 6) : printT v = [91] ++ Lib.join (v.kids.map printT) [44] ++ [93] := by rw [printT_eq, if_neg (by omega), if_neg (by omega), if_neg (by omega), if_neg (by omega), if_neg (by omega), if_neg (by omega), if_neg (by omega)]
theorem head_join {l : List (List UInt8)} (hne : l ≠ []) (rest : List UInt8) (P : UInt8 → Prop) (h : ∀ s ∈ l, ∃ b t, s = b :: t ∧ P b) : ∃ b t, Lib.join l [44] ++ rest = b :: t ∧ P b := by
  match l, hne with
  | [s], _ =>
    obtain ⟨b, t, e, hP⟩ := h s (by simp)
    exact ⟨b, t ++ rest, by rw [Lib.join_one, e]; rfl, hP⟩
  | s :: s2 :: l, _ =>
    obtain ⟨b, t, e, hP⟩ := h s (by simp)
    exact ⟨b, _, by rw [join_cons2, e]; rfl, hP⟩
theorem enter_at {ws l : List UInt8} {b : UInt8} {st : RS} (d : Nat) (h : st.left = ws ++ b :: l) (hw : ws.all isBl = true) (hn : isBl b = false) :
    enterR st d = ⟨b :: l, st.nodes + 1, st.bad, st.deep || decide (12 < d), st.big || decide (400 < st.nodes + 1)⟩ := by
  unfold enterR; rw [h, trim_at1 hw hn]
theorem read_back (v : Val) : mayT v = true → poiV v = false → RB v := by
  induction v using Val.induct with
  | h v ih =>
    intro hm hp n ws st d rest hl hw hb hr hn
    obtain ⟨hcode, hkl, hc⟩ := may_cases hm (poi_kind hp)
    have ihk : ∀ k ∈ v.kids, RB k := fun k hk => ih k hk (may_kid hm hk) (poi_kid hp hk)
    obtain ⟨b0, t0, e0, hb0⟩ := print_head hm
    obtain ⟨n, rfl⟩ : ∃ k, n = k + 1 := ⟨n - 1, by rw [e0] at hn; simp at hn; omega⟩
    rw [sz_eq, depV_eq]
    rcases hc with ⟨k, h1, h2, h3, h4⟩ | ⟨k, h1, h2, h3, h4⟩ | ⟨k, h1, h2, h3, h4⟩ | ⟨k, h1, h2, h3, h4⟩ | ⟨k, h1, h2, h3, h4⟩ | ⟨k, h1, h2, h3⟩ | ⟨k, h1, h2, h3, h4⟩
    · rw [bare_of hcode k h1 h2 h3, h4]
      rw [print1 k] at hl hn
      have he := enter_at d (show st.left = ws ++ 110 :: ([117, 108, 108] ++ rest) from hl) hw (by decide)
      simp only [valR, he, pre1]
      rw [if_neg (by decide), if_neg (by decide)]
      unfold atomR
      rw [if_pos (by simp [wNull, List.isPrefixOf])]
      simp [dropR, hb]
    · rw [bare_of hcode k h1 h2 h3, h4]
      rw [print2 k] at hl hn
      have he := enter_at d (show st.left = ws ++ 102 :: ([97, 108, 115, 101] ++ rest) from hl) hw (by decide)
      simp only [valR, he, pre1]
      rw [if_neg (by decide), if_neg (by decide)]
      unfold atomR
      rw [if_neg (by simp [wNull, List.isPrefixOf]), if_neg (by simp [wTrue, List.isPrefixOf]), if_pos (by simp [wFalse, List.isPrefixOf])]
      simp [dropR, hb]
    · rw [bare_of hcode k h1 h2 h3, h4]
      rw [print3 k] at hl hn
      have he := enter_at d (show st.left = ws ++ 116 :: ([114, 117, 101] ++ rest) from hl) hw (by decide)
      simp only [valR, he, pre1]
      rw [if_neg (by decide), if_neg (by decide)]
      unfold atomR
      rw [if_neg (by simp [wNull, List.isPrefixOf]), if_pos (by simp [wTrue, List.isPrefixOf])]
      simp [dropR, hb]
    · rw [bare_of hcode k rfl h2 h3, h4]
      rw [print4 k] at hl hn
      have hpp := parseL_print h1
      rw [read_num n d hl hw (by rw [hpp]; simp) hr, hpp]
      simp [hb, numV]
    · rw [bare_of hcode k h1 rfl h3, h4]
      rw [print5 k] at hl hn
      have he := enter_at d (show st.left = ws ++ 34 :: ((qBody v.text ++ [34]) ++ rest) from hl) hw (by decide)
      simp only [valR, he, pre1]
      rw [if_neg (by decide), if_neg (by decide)]
      unfold atomR
      rw [if_neg (by simp [wNull, List.isPrefixOf]), if_neg (by simp [wTrue, List.isPrefixOf]), if_neg (by simp [wFalse, List.isPrefixOf]), if_pos (by simp [List.isPrefixOf])]
      rw [quoted_back (ws := []) (key := v.text) (rest := rest) rfl rfl h2]
      simp [hb]
    · rw [bare_of hcode k h1 h2 h3]
      rw [print6 k] at hl hn
      rw [show ws ++ ([91] ++ Lib.join (v.kids.map printT) [44] ++ [93] ++ rest) = ws ++ 91 :: (Lib.join (v.kids.map printT) [44] ++ 93 :: rest) by simp] at hl
      have he := enter_at d hl hw (by decide)
      simp only [valR, he, pre1]
      rw [if_pos (by decide)]
      simp only [dropR, List.drop_succ_cons, List.drop_zero]
      by_cases hk0 : v.kids = []
      · rw [hk0]
        rw [tk_hit (ws := []) (rest := rest) (w := 93) (by rfl) rfl (by decide)]
        simp [hb]
      · obtain ⟨b, t, e, p1, p2, p3⟩ := head_join (l := v.kids.map printT) (by simpa using hk0) (93 :: rest) (fun b => isBl b = false ∧ b ≠ 93 ∧ b ≠ 125) (by
          intro s hs
          obtain ⟨k, hk, rfl⟩ := List.mem_map.1 hs
          exact print_head (may_kid hm hk))
        rw [tk_miss (ws := []) (w := 93) e rfl p1 p2]
        simp only [Bool.false_eq_true, if_false]
        rw [read_list v.kids hk0 ihk n ⟨b :: t, st.nodes + 1, st.bad, st.deep || decide (12 < d), st.big || decide (400 < st.nodes + 1)⟩ (d + 1) 1 [] rest e.symm hb (by omega) (by simp only [List.length_append, List.length_cons, List.length_nil] at hn; omega)]
        have hd : 1 ≤ depL 0 v.kids := by
          cases hkk : v.kids with
          | nil => exact absurd hkk hk0
          | cons a l => rw [depL_cons]; have := dep_pos a; omega
        refine Prod.ext ?_ (by simp)
        simp only [RS.mk.injEq, true_and]
        exact ⟨by omega, flag_deep2 _ hd, flag_big2 _⟩
    · rw [bare_of hcode k h1 h2 rfl]
      rw [print7 k] at hl hn
      rw [show ws ++ ([123] ++ Lib.join (entT v.keys (v.kids.map printT)) [44] ++ [125] ++ rest) = ws ++ 123 :: (Lib.join (entT v.keys (v.kids.map printT)) [44] ++ 125 :: rest) by simp] at hl
      have he := enter_at d hl hw (by decide)
      simp only [valR, he, pre1]
      rw [if_neg (by decide), if_pos (by decide)]
      simp only [dropR, List.drop_succ_cons, List.drop_zero]
      have hkw : (∀ s ∈ v.keys, wordT s = true) ∧ v.keys.Nodup := by
        unfold keysT at h4
        simp only [Bool.and_eq_true, List.all_eq_true, decide_eq_true_eq] at h4
        exact h4
      by_cases hk0 : v.kids = []
      · have hkk : v.keys = [] := by rw [hk0] at h3; exact List.length_eq_zero_iff.1 h3
        rw [hk0, hkk]
        rw [tk_hit (ws := []) (rest := rest) (w := 125) (by rfl) rfl (by decide)]
        simp [hb]
      · obtain ⟨b, t, e, p1, p2, p3⟩ := head_join (l := entT v.keys (v.kids.map printT)) (by
            intro e0
            have := congrArg List.length e0
            simp [entT, h3] at this
            exact hk0 this) (125 :: rest) (fun b => isBl b = false ∧ b ≠ 93 ∧ b ≠ 125) (by
          intro s hs
          obtain ⟨i, hi, rfl⟩ := List.mem_iff_getElem.1 hs
          simp only [entT, List.getElem_zipWith]
          exact ⟨34, _, rfl, by decide⟩)
        rw [tk_miss (ws := []) (w := 125) e rfl p1 p3]
        simp only [Bool.false_eq_true, if_false]
        rw [read_obj v.kids v.keys h3 hk0 ihk hkw.1 n ⟨b :: t, st.nodes + 1, st.bad, st.deep || decide (12 < d), st.big || decide (400 < st.nodes + 1)⟩ (d + 1) 1 [] [] rest (by simpa using hkw.2) e.symm hb (by omega) (by simp only [List.length_append, List.length_cons, List.length_nil] at hn; omega)]
        have hd : 1 ≤ depL 0 v.kids := by
          cases hkk : v.kids with
          | nil => exact absurd hkk hk0
          | cons a l => rw [depL_cons]; have := dep_pos a; omega
        refine Prod.ext ?_ (by simp)
        simp only [RS.mk.injEq, true_and]
        exact ⟨by omega, flag_deep2 _ hd, flag_big2 _⟩
theorem one_val {v : Val} (hm : mayT v = true) (hp : poiV v = false) {ws rest : List UInt8} (hw : ws.all isBl = true) (hr : ∀ b, rest.head? = some b → numl b = false) :
    valR (2 * (ws ++ (printT v ++ rest)).length + 2) ⟨ws ++ (printT v ++ rest), 0, false, false, false⟩ 1 = (⟨rest, Val.sz v, false, decide (12 < depV v), decide (400 < Val.sz v)⟩, bareV v) := by
  rw [read_back v hm hp (2 * (ws ++ (printT v ++ rest)).length + 2) ws ⟨ws ++ (printT v ++ rest), 0, false, false, false⟩ 1 rest rfl hw rfl hr (by simp only [List.length_append]; omega)]
  simp only [Bool.false_or, Nat.zero_add, Nat.add_sub_cancel_left]
/-- A document that was printed is read as it was. -/
theorem one_back {v : Val} (hm : mayT v = true) (hp : poiV v = false) (hd : depV v ≤ 12) (hs : Val.sz v ≤ 400) {ws rest : List UInt8} (hw : ws.all isBl = true) (hr : ∀ b, rest.head? = some b → numl b = false) :
    oneM (ws ++ (printT v ++ rest)) = (bareV v, ((ws.length + (printT v).length : Nat) : Int), 0) := by
  unfold oneM
  rw [one_val hm hp hw hr]
  simp only [Bool.false_eq_true, if_false, decide_eq_true_eq]
  rw [if_neg (by omega), if_neg (by omega)]
  simp only [List.length_append]
  rw [show ((ws.length + ((printT v).length + rest.length) : Nat) : Int) - (rest.length : Nat) = ((ws.length + (printT v).length : Nat) : Int) by omega]
theorem one_deep {v : Val} (hm : mayT v = true) (hp : poiV v = false) (hd : 12 < depV v) {ws rest : List UInt8} (hw : ws.all isBl = true) (hr : ∀ b, rest.head? = some b → numl b = false) :
    oneM (ws ++ (printT v ++ rest)) = (zeroV, 0, 11) := by
  unfold oneM
  rw [one_val hm hp hw hr]
  simp only [Bool.false_eq_true, if_false, decide_eq_true_eq]
  rw [if_pos hd]
/-- A number alone is a document. -/
theorem one_num {s : List UInt8} (hp : (ParseL s).2 ≠ 4) : oneM s = if (ParseL s).2 = 3 then (zeroV, 0, 3) else (numV (ParseL s).1, (s.length : Int), 0) := by
  unfold oneM
  rw [read_num (ws := []) (rest := []) (s := s) (2 * s.length + 1) 1 (by simp) rfl hp (by simp)]
  simp
end Go.Proofs.YtdlejiiiifhiiaaGreatDoor
