import Derived.Test.YtdlejiiiifhiiaaDoorM4
import Derived.Test.YtdlejiiiifhiiaaDoorM3
import Derived.Laws.RangeString
import Derived.Lib.RuneCount
/-
  A PLAIN LAW: runes of a text: those below 128 are its bytes.
-/
namespace Go.Proofs.YtdlejiiiifhiiaaDoor
open Sy Go
set_option linter.unusedSimpArgs false
set_option linter.unusedVariables false
theorem decL_pos {s : List UInt8} {pos : Nat} (h : pos < s.length) : 1 ≤ (decL s pos).2 := Lib.decode_width_pos _ _ (by simpa [ByteArray.size] using h)
theorem decL_ascii {s : List UInt8} {pos : Nat} (h : pos < s.length) (ha : (s.getD pos 0).toNat < 128) : decL s pos = ((s.getD pos 0).toNat, 1) := by
  have hs : pos < (⟨s.toArray⟩ : ByteArray).size := by simpa [ByteArray.size] using h
  have e : (⟨s.toArray⟩ : ByteArray)[pos]'hs = s.getD pos 0 := by simp [List.getD_eq_getElem?_getD, h]; rfl
  unfold decL
  rw [decode_ascii _ _ hs (by rw [e]; exact ha), e]
theorem decL_big {s : List UInt8} {pos : Nat} (h : pos < s.length) (ha : 128 ≤ (s.getD pos 0).toNat) : 128 ≤ (decL s pos).1 := by
  have e : ((⟨s.toArray⟩ : ByteArray).get! (pos + 0)).toNat = (s.getD pos 0).toNat := by
    simp [ByteArray.get!, List.getD_eq_getElem?_getD, h]
  unfold decL Utf8.decode
  simp only [e]
  rw [if_neg (by omega)]
  split
  · split
    · simp only [ge_iff_le] at *; omega
    · simp [Utf8.runeError]
  · split
    · split
      · rename_i hc; simp only [ge_iff_le, Bool.and_eq_true, decide_eq_true_eq] at hc; omega
      · simp [Utf8.runeError]
    · split
      · split
        · rename_i hc; simp only [ge_iff_le, Bool.and_eq_true, decide_eq_true_eq] at hc; omega
        · simp [Utf8.runeError]
      · simp [Utf8.runeError]
/-- The place of the first rune that is so. -/
def idxF (p : Int → Bool) (s : List UInt8) : Nat → Nat → Int
  | 0, _ => -1
  | f + 1, pos => if pos < s.length then (if p (decL s pos).1 then (pos : Int) else idxF p s f (pos + (decL s pos).2)) else -1
def indexF (p : Int → Bool) (s : List UInt8) : Int := idxF p s (s.length + 1) 0
theorem idxF_fuel (p : Int → Bool) (s : List UInt8) : ∀ (f g pos : Nat), s.length < pos + f → s.length < pos + g → idxF p s f pos = idxF p s g pos
  | 0, 0, _, _, _ => rfl
  | 0, g + 1, pos, h, _ => by simp only [idxF]; rw [if_neg (by omega)]
  | f + 1, 0, pos, _, h => by simp only [idxF]; rw [if_neg (by omega)]
  | f + 1, g + 1, pos, hf, hg => by
    simp only [idxF]
    by_cases h : pos < s.length
    · rw [if_pos h, if_pos h]
      split
      · rfl
      · have := decL_pos h
        exact idxF_fuel p s f g _ (by omega) (by omega)
    · rw [if_neg h, if_neg h]
def idxAt (p : Int → Bool) (s : List UInt8) (pos : Nat) : Int := idxF p s (s.length + 1 - pos) pos
theorem idxAt_end {p : Int → Bool} {s : List UInt8} {pos : Nat} (h : ¬ pos < s.length) : idxAt p s pos = -1 := by
  unfold idxAt; cases hf : s.length + 1 - pos with
  | zero => rfl
  | succ f => simp only [idxF]; rw [if_neg h]
theorem idxAt_hit {p : Int → Bool} {s : List UInt8} {pos : Nat} (h : pos < s.length) (hp : p (decL s pos).1 = true) : idxAt p s pos = pos := by
  unfold idxAt; rw [show s.length + 1 - pos = (s.length - pos) + 1 by omega]; simp only [idxF]; rw [if_pos h, if_pos hp]
theorem idxAt_miss {p : Int → Bool} {s : List UInt8} {pos : Nat} (h : pos < s.length) (hp : p (decL s pos).1 = false) : idxAt p s pos = idxAt p s (pos + (decL s pos).2) := by
  unfold idxAt; rw [show s.length + 1 - pos = (s.length - pos) + 1 by omega]; simp only [idxF]
  have := decL_pos h
  rw [if_pos h, if_neg (by simp [hp])]; exact idxF_fuel p s _ _ _ (by omega) (by omega)
theorem indexF_at (p : Int → Bool) (s : List UInt8) : indexF p s = idxAt p s 0 := by simp [indexF, idxAt]
/-- Where a rune of 128 or more is so, the first such is the first byte that is so. -/
theorem idxAt_bytes {p : Int → Bool} (hbig : ∀ n : Int, 128 ≤ n → p n = true) (s : List UInt8) : ∀ (f pos : Nat), f = s.length - pos → pos ≤ s.length → idxAt p s pos = if (s.drop pos).all (fun b => !p b.toNat) then -1 else ((pos + ((s.drop pos).takeWhile fun b => !p b.toNat).length : Nat) : Int)
  | 0, pos, hf, hp => by
    rw [idxAt_end (by omega), List.drop_eq_nil_of_le (by omega)]; simp
  | f + 1, pos, hf, hp => by
    have hlt : pos < s.length := by omega
    have hd : s.drop pos = s.getD pos 0 :: s.drop (pos + 1) := by
      rw [List.drop_eq_getElem_cons hlt]; congr 1; simp [List.getD_eq_getElem?_getD, hlt]
    rw [hd]
    have hda0 := fun h => decL_ascii (s := s) (pos := pos) hlt h
    have hdb0 := fun h => decL_big (s := s) (pos := pos) hlt h
    clear hd
    generalize s.getD pos 0 = c at *
    by_cases ha : c.toNat < 128
    · have hda := hda0 ha
      cases hpb : p ((c.toNat : Nat) : Int) with
      | true => rw [idxAt_hit hlt (by rw [hda]; exact hpb)]; simp [hpb]
      | false =>
        rw [idxAt_miss hlt (by rw [hda]; exact hpb), hda, idxAt_bytes hbig s f (pos + 1) (by omega) (by omega)]
        simp only [List.all_cons, hpb, Bool.not_false, Bool.true_and, List.takeWhile_cons, if_true, List.length_cons]
        split <;> first | rfl | (congr 1; omega)
    · have hb := hdb0 (by omega)
      rw [idxAt_hit hlt (hbig _ (by omega))]
      have : p ((c.toNat : Nat) : Int) = true := hbig _ (by omega)
      simp [this]
theorem indexF_bytes {p : Int → Bool} (hbig : ∀ n : Int, 128 ≤ n → p n = true) (s : List UInt8) : indexF p s = if s.all (fun b => !p b.toNat) then -1 else (((s.takeWhile fun b => !p b.toNat).length : Nat) : Int) := by
  rw [indexF_at, idxAt_bytes hbig s _ 0 rfl (by omega)]; simp
theorem indexF_lt (p : Int → Bool) (s : List UInt8) : -1 ≤ indexF p s ∧ indexF p s ≤ s.length := by
  have key : ∀ (f pos : Nat), pos ≤ s.length → -1 ≤ idxF p s f pos ∧ idxF p s f pos ≤ s.length := by
    intro f
    induction f with
    | zero => intro pos _; simp [idxF] <;> omega
    | succ f ih =>
      intro pos hpos
      simp only [idxF]
      split
      · split
        · omega
        · by_cases h : pos + (decL s pos).2 ≤ s.length
          · exact ih _ h
          · cases f with
            | zero => simp [idxF] <;> omega
            | succ f => simp only [idxF]; rw [if_neg (by omega)]; omega
      · omega
  exact key _ 0 (by omega)
end Go.Proofs.YtdlejiiiifhiiaaDoor
namespace Go.Proofs.YtdlejiiiifhiiaaDoor
open Sy Go
set_option maxRecDepth 100000
set_option maxHeartbeats 4000000
set_option linter.unusedSimpArgs false
set_option linter.unusedVariables false
variable {G : Glob}

theorem indexFunc_ev (s : List UInt8) (g : FuncId) (p : Int → Bool) (hg : ∀ n : Int, AFn Tryd.prog G g [.int .i32 n] (.bool (p n))) : AFn Tryd.prog G 92 [.str s, .fn g, .bool true] (.int .i64 (indexF p s)) := by
  refine AFn.introU tok Tryd.func92 (by kernel_rfl) rfl rfl ?_
  simp only [Tryd.f92, enumA, List.map_cons, List.map_nil]
  refine AW.seqRegionO [] ?_
  refine s1 tok [0, 1, 2] ?_
  refine AOpsO.nil ?_
  refine AW.seq ?_
  refine AW.seqRegionO [] ?_
  refine s1 tok [1, 2, 9] ?_
  refine s1 tok [1, 2, 10] ?_
  refine AOpsO.nil ?_
  refine AW.block ?_
  refine AW.loop (α := Nat) (fun pos => idxAt p s pos = indexF p s) (fun pos => ⟨upds 21 [(1, .p (.fn g)), (2, .p (.bool true)), (10, .it 10)], [], [(10, .iter s pos)], 0⟩) (fun pos => s.length - pos) (0) (indexF_at p s).symm ⟨upds_le (by simp), rfl, by simp, by simp⟩ ?_
  rintro pos hi
  have hpos : pos < s.length → 1 ≤ (decL s pos).2 := decL_pos
  by_cases hs2 : pos < s.length
  ·
    refine AW.seqRegionO [.bool true] ?_
    refine s1 tok [1, 2, 10, 11] ?_ (hv := by first | with_reducible exact True.intro | (simpa using hs2; done) | omega | simp | (simp; omega) | (simp +contextual; omega))
    refine s1 tok [1, 2, 10, 11, 12] ?_
    refine AOpsO.nil ?_
    refine AW.seq ?_
    refine AW.cond (c := .tmp 12) (by conv => lhs; simp) trivial ?_ ?_
    · intro h12
      try simp at h12
      refine AW.skip ?_
      refine AW.block ?_
      refine AW.seqRegionO [] ?_
      refine s1 tok [1, 2, 10, 11, 13] ?_
      refine s1 tok [1, 2, 10, 13, 14] ?_
      refine s1 tok [1, 2, 7, 10, 14] ?_
      refine s1 tok [1, 2, 7, 8, 10] ?_
      refine AOpsO.nil ?_
      refine AW.seqRegionO [.nilp, .bool (p (decL s pos).1)] ?_
      refine s1 tok [1, 2, 7, 8, 10, 15] ?_
      refine s1 tok [1, 2, 7, 10, 15, 16] ?_
      refine s1 tok [1, 2, 7, 10, 17] ?_ (hv := by first | with_reducible exact True.intro | (exact hg _; done) | omega | simp | (simp; omega) | (simp +contextual; omega))
      refine s1 tok [1, 2, 7, 10, 17, 18] ?_
      refine s1 tok [1, 2, 7, 10, 19] ?_ (hv := by first | with_reducible exact True.intro | (exact hg _; done) | omega | simp | (simp; omega) | (simp +contextual; omega))
      refine AOpsO.nil ?_
      refine AW.cond (c := .tmp 19) (by conv => lhs; simp) trivial ?_ ?_
      · intro h19
        try simp at h19
        have hI : indexF p s = pos := by rw [← hi, idxAt_hit hs2 (by simpa using h19)]
        refine AW.seqRegionO [] ?_
        refine s1 tok [20] ?_
        refine s1 tok [6] ?_
        refine AOpsO.nil ?_
        exact AW.ret ⟨.inr rfl, _, _, by (conv => lhs; simp), trivial, by simp [hI]⟩
      · intro h19
        try simp at h19
        have hnx : idxAt p s (pos + (decL s pos).2) = indexF p s := by rw [← idxAt_miss hs2 (by simpa using h19)]; exact hi
        refine AW.skip ?_
        exact ⟨pos + (decL s pos).2, hnx, by have := hpos hs2; omega, upds_le (by simp), rfl, by simp, by simp⟩
    · intro h12
      try simp at h12
  ·
    refine AW.seqRegionO [.bool false] ?_
    refine s1 tok [1, 2, 10, 11] ?_ (hv := by first | with_reducible exact True.intro | (simpa using hs2; done) | omega | simp | (simp; omega) | (simp +contextual; omega))
    refine s1 tok [1, 2, 10, 11, 12] ?_
    refine AOpsO.nil ?_
    refine AW.seq ?_
    refine AW.cond (c := .tmp 12) (by conv => lhs; simp) trivial ?_ ?_
    · intro h12
      try simp at h12
    · intro h12
      try simp at h12
      refine AW.exit ?_
      simp
      refine AW.seqRegionO [] ?_
      refine s1 tok [6] ?_
      refine AOpsO.nil ?_
      exact AW.ret ⟨.inr rfl, _, _, by (conv => lhs; simp), trivial, by simp [← hi, idxAt_end hs2]⟩
theorem IndexFunc_ev (s : List UInt8) (g : FuncId) (p : Int → Bool) (hg : ∀ n : Int, AFn Tryd.prog G g [.int .i32 n] (.bool (p n))) : AFn Tryd.prog G 81 [.str s, .fn g] (.int .i64 (indexF p s)) := by
  refine AFn.introU tok Tryd.func81 (by kernel_rfl) rfl rfl ?_
  simp only [Tryd.f81, enumA, List.map_cons, List.map_nil]
  refine AW.seqRegionO [] ?_
  refine s1 tok [0, 1] ?_
  refine AOpsO.nil ?_
  refine AW.seqRegionO [.nilp, .int .i64 (indexF p s)] ?_
  refine s1 tok [1, 5] ?_
  refine s1 tok [5, 6] ?_
  refine s1 tok [7] ?_ (hv := by first | with_reducible exact True.intro | (exact indexFunc_ev s g p hg; done) | omega | simp | (simp; omega) | (simp +contextual; omega))
  refine s1 tok [4] ?_
  refine AOpsO.nil ?_
  exact AW.ret ⟨.inr rfl, _, _, by (conv => lhs; simp), trivial, by simp⟩
-- no ContainsFunc_ev
end Go.Proofs.YtdlejiiiifhiiaaDoor
namespace Go.Proofs.YtdlejiiiifhiiaaDoor
open Sy Go
set_option maxRecDepth 100000
set_option linter.unusedSimpArgs false
set_option linter.unusedVariables false

/-- A decimal. -/
structure Dc where
  neg : Bool
  digits : List UInt8
  scale : Int
  deriving DecidableEq
@[simp] def Dc.enc (d : Dc) : PD := .agg [.bool d.neg, .str d.digits, .int .i64 d.scale]
/-- A value. -/
inductive Val where
  | mk (kind mask : Int) (num : Dc) (text : List UInt8) (keys : List (List UInt8)) (kids : List Val) (code : Int)
def Val.kind : Val → Int
  | .mk k _ _ _ _ _ _ => k
def Val.mask : Val → Int
  | .mk _ m _ _ _ _ _ => m
def Val.num : Val → Dc
  | .mk _ _ n _ _ _ _ => n
def Val.text : Val → List UInt8
  | .mk _ _ _ t _ _ _ => t
def Val.keys : Val → List (List UInt8)
  | .mk _ _ _ _ ks _ _ => ks
def Val.kids : Val → List Val
  | .mk _ _ _ _ _ vs _ => vs
def Val.code : Val → Int
  | .mk _ _ _ _ _ _ c => c
@[simp] theorem Val.kind_mk (k m : Int) (n : Dc) (t : List UInt8) (ks : List (List UInt8)) (vs : List Val) (c : Int) : (Val.mk k m n t ks vs c).kind = k := rfl
@[simp] theorem Val.mask_mk (k m : Int) (n : Dc) (t : List UInt8) (ks : List (List UInt8)) (vs : List Val) (c : Int) : (Val.mk k m n t ks vs c).mask = m := rfl
@[simp] theorem Val.num_mk (k m : Int) (n : Dc) (t : List UInt8) (ks : List (List UInt8)) (vs : List Val) (c : Int) : (Val.mk k m n t ks vs c).num = n := rfl
@[simp] theorem Val.text_mk (k m : Int) (n : Dc) (t : List UInt8) (ks : List (List UInt8)) (vs : List Val) (c : Int) : (Val.mk k m n t ks vs c).text = t := rfl
@[simp] theorem Val.keys_mk (k m : Int) (n : Dc) (t : List UInt8) (ks : List (List UInt8)) (vs : List Val) (c : Int) : (Val.mk k m n t ks vs c).keys = ks := rfl
@[simp] theorem Val.kids_mk (k m : Int) (n : Dc) (t : List UInt8) (ks : List (List UInt8)) (vs : List Val) (c : Int) : (Val.mk k m n t ks vs c).kids = vs := rfl
@[simp] theorem Val.code_mk (k m : Int) (n : Dc) (t : List UInt8) (ks : List (List UInt8)) (vs : List Val) (c : Int) : (Val.mk k m n t ks vs c).code = c := rfl
mutual
def Val.enc : Val → PD
  | .mk k m n t ks vs c => .agg [.int .i64 k, .int .u64 m, .bool n.neg, .str n.digits, .int .i64 n.scale, .str t, .sl 1 (ks.map PD.str), .sl 9 (Val.encL vs), .int .i64 c]
def Val.encL : List Val → List PD
  | [] => []
  | v :: vs => Val.enc v :: Val.encL vs
end
def dc0 : Dc := ⟨false, [], 0⟩
def nullV : Val := .mk 1 0 dc0 [] [] [] 0
theorem Val.encL_map : ∀ l, Val.encL l = l.map Val.enc
  | [] => by simp only [Val.encL, List.map_nil]
  | v :: vs => by simp only [Val.encL, List.map_cons, Val.encL_map vs]
@[simp] theorem Val.enc_def (v : Val) : v.enc = .agg [.int .i64 v.kind, .int .u64 v.mask, .bool v.num.neg, .str v.num.digits, .int .i64 v.num.scale, .str v.text, .sl 1 (v.keys.map PD.str), .sl 9 (v.kids.map Val.enc), .int .i64 v.code] := by
  cases v; simp only [Val.enc, Val.encL_map, Val.kind, Val.mask, Val.num, Val.text, Val.keys, Val.kids, Val.code]
mutual
def Val.sz : Val → Nat
  | .mk _ _ _ _ _ vs _ => 1 + Val.szL vs
def Val.szL : List Val → Nat
  | [] => 0
  | v :: vs => Val.sz v + Val.szL vs
end
theorem Val.szL_mem {k : Val} : ∀ {l : List Val}, k ∈ l → Val.sz k ≤ Val.szL l
  | v :: vs, h => by
    simp only [Val.szL]
    rcases List.mem_cons.1 h with rfl | h
    · omega
    · have := Val.szL_mem h; omega
theorem Val.sz_kid {v k : Val} (h : k ∈ v.kids) : Val.sz k < Val.sz v := by
  cases v; simp only [Val.kids] at h; simp only [Val.sz]; have := Val.szL_mem h; omega
theorem Val.induct {p : Val → Prop} (h : ∀ v, (∀ k ∈ v.kids, p k) → p v) (v : Val) : p v := by
  have key : ∀ n v, Val.sz v = n → p v := by
    intro n
    induction n using Nat.strongRecOn with
    | _ n ih => intro v hv; exact h v fun k hk => ih _ (hv ▸ Val.sz_kid hk) k rfl
  exact key _ v rfl
theorem Val.ext {a b : Val} (h1 : a.kind = b.kind) (h2 : a.mask = b.mask) (h3 : a.num = b.num) (h4 : a.text = b.text) (h5 : a.keys = b.keys) (h6 : a.kids = b.kids) (h7 : a.code = b.code) : a = b := by
  cases a; cases b; simp_all [Val.kind, Val.mask, Val.num, Val.text, Val.keys, Val.kids, Val.code]
theorem Dc.ext' {a b : Dc} (h1 : a.neg = b.neg) (h2 : a.digits = b.digits) (h3 : a.scale = b.scale) : a = b := by cases a; cases b; simp_all
end Go.Proofs.YtdlejiiiifhiiaaDoor
namespace Go.Proofs.YtdlejiiiifhiiaaDoor
open Sy Go
set_option maxRecDepth 100000
set_option maxHeartbeats 4000000
set_option linter.unusedSimpArgs false
set_option linter.unusedVariables false
variable {G : Glob}

def digitM (n : Int) : Bool := decide (48 ≤ n) && decide (n ≤ 57)
theorem digit_ev (n : Int) : AFn Tryd.prog G 13 [.int .u8 n] (.bool (digitM n)) := by
  refine AFn.introU tok Tryd.func13 (by kernel_rfl) rfl rfl ?_
  simp only [Tryd.f13, enumA, List.map_cons, List.map_nil]
  refine AW.seqRegionO [] ?_
  refine s1 tok [0] ?_
  refine AOpsO.nil ?_
  refine AW.seqRegionO [] ?_
  refine s1 tok [0, 3] ?_
  refine s1 tok [0, 4] ?_
  refine s1 tok [0, 5] ?_
  refine s2 tok [5, 6] 5 rfl rfl ?_
  refine s2 tok [5, 7] 5 rfl rfl ?_
  refine s1 tok [8] ?_
  refine s1 tok [2] ?_
  refine AOpsO.nil ?_
  exact AW.ret ⟨.inr rfl, _, _, by (conv => lhs; simp), trivial, by simp [digitM]⟩
def byteAt (s : List UInt8) (i : Nat) : Int := ((s.getD i 0).toNat : Int)
theorem byteAt_get {s : List UInt8} {i : Nat} (h : i < s.length) : s[i]? = some (s.getD i 0) := by simp [List.getD_eq_getElem?_getD, h]
def runM (s : List UInt8) (k : Nat) : Nat := ((s.drop k).takeWhile fun b => digitM b.toNat).length
theorem takeWhile_lt {p : UInt8 → Bool} : ∀ {l : List UInt8} {n : Nat}, n ≤ (l.takeWhile p).length → ((n < (l.takeWhile p).length) ↔ ∃ b, l[n]? = some b ∧ p b = true)
  | [], n, h => by simp at h; subst h; simp
  | a :: l, n, h => by
    rw [List.takeWhile_cons] at h ⊢
    by_cases ha : p a = true
    · rw [if_pos ha] at h ⊢
      cases n with
      | zero => simp [ha]
      | succ n => simpa using takeWhile_lt (l := l) (n := n) (by simpa using h)
    · rw [if_neg ha] at h ⊢
      simp at h; subst h
      simp [ha]
theorem runM_lt {s : List UInt8} {k n : Nat} (h : n ≤ runM s k) : n < runM s k ↔ (k + n < s.length ∧ digitM (byteAt s (k + n)) = true) := by
  unfold runM at h ⊢
  rw [takeWhile_lt h]
  constructor
  · rintro ⟨b, hb, hd⟩
    rw [List.getElem?_drop] at hb
    have := (List.getElem?_eq_some_iff.1 hb).1
    refine ⟨this, ?_⟩
    rw [byteAt, List.getD_eq_getElem?_getD, hb]; exact hd
  · rintro ⟨h1, h2⟩
    exact ⟨s.getD (k + n) 0, by rw [List.getElem?_drop]; exact byteAt_get h1, h2⟩
theorem runM_le (s : List UInt8) (k : Nat) : runM s k ≤ s.length := by
  unfold runM
  have := (List.takeWhile_sublist (l := s.drop k) fun b : UInt8 => digitM b.toNat).length_le
  simp at this; omega
theorem run_ev (s : List UInt8) (k : Nat) (hs : s.length ≤ 1000000) (hk : k ≤ 1000000) : AFn Tryd.prog G 21 [.str s, .int .i64 k] (.int .i64 (runM s k)) := by
  refine AFn.introU tok Tryd.func21 (by kernel_rfl) rfl rfl ?_
  simp only [Tryd.f21, enumA, List.map_cons, List.map_nil]
  refine AW.seqRegionO [] ?_
  refine s1 tok [0, 1] ?_
  refine AOpsO.nil ?_
  refine AW.seqRegionO [] ?_
  refine s1 tok [0, 1, 5] ?_
  refine AOpsO.nil ?_
  refine AW.seq ?_
  refine AW.block ?_
  refine AW.loop (α := Nat) (fun n => n ≤ runM s k) (fun n => ⟨upds 23 [(0, .p (.str s)), (1, .p (.int .i64 k)), (5, .p (.int .i64 n))], [], [], 0⟩) (fun n => runM s k - n) (0) (by omega) ⟨upds_le (by simp), rfl, by simp, by simp⟩ ?_
  rintro n hn
  have hrl := runM_le s k
  have hlt := runM_lt hn
  have hd := digit_ev (G := G) (byteAt s (k + n))
  have hix : k + n < s.length → s[((k : Int) + n).toNat]? = some (s.getD (k + n) 0) := fun h => by rw [show ((k : Int) + n).toNat = k + n by omega]; exact byteAt_get h
  refine AW.seq ?_
  refine AW.seqRegionO [.int .u8 (byteAt s (k + n)), .nilp, .bool (digitM (byteAt s (k + n)))] ?_
  refine s1 tok [0, 1, 5, 6] ?_
  refine s1 tok [0, 1, 5, 6, 7] ?_
  refine s1 tok [0, 1, 5, 8] ?_ (hv := by first | with_reducible exact True.intro | (first | exact fun h => ⟨h, by omega, _, hix (by omega), rfl⟩ | simp [hd]; done) | omega | simp | (simp; omega) | (simp +contextual; omega))
  refine s1 tok [0, 1, 5, 8, 9] ?_
  refine s1 tok [0, 1, 5, 8, 10] ?_ (hv := by first | with_reducible exact True.intro | (first | exact fun h => ⟨h, by omega, _, hix (by omega), rfl⟩ | simp [hd]; done) | omega | simp | (simp; omega) | (simp +contextual; omega))
  refine s1 tok [0, 1, 5, 11] ?_ (hv := by first | with_reducible exact True.intro | (first | exact fun h => ⟨h, by omega, _, hix (by omega), rfl⟩ | simp [hd]; done) | omega | simp | (simp; omega) | (simp +contextual; omega))
  refine s1 tok [0, 1, 5, 12] ?_
  refine s2 tok [0, 1, 5, 12, 13] 12 rfl rfl ?_
  refine s2 tok [0, 1, 5, 12, 13, 14] 12 rfl rfl ?_
  refine s2 tok [0, 1, 5, 12, 13, 14, 15] 12 rfl rfl ?_
  refine s2 tok [0, 1, 5, 12, 13, 16] 12 rfl rfl ?_ (hv := by first | with_reducible exact True.intro | (first | exact fun h => ⟨h, by omega, _, hix (by omega), rfl⟩ | simp [hd]; done) | omega | simp | (simp; omega) | (simp +contextual; omega))
  refine s2 tok [0, 1, 5, 12, 17] 12 rfl rfl ?_ (hv := by first | with_reducible exact True.intro | (first | exact fun h => ⟨h, by omega, _, hix (by omega), rfl⟩ | simp [hd]; done) | omega | simp | (simp; omega) | (simp +contextual; omega))
  refine s2 tok [0, 1, 5, 12, 18] 12 rfl rfl ?_ (hv := by first | with_reducible exact True.intro | (first | exact fun h => ⟨h, by omega, _, hix (by omega), rfl⟩ | simp [hd]; done) | omega | simp | (simp; omega) | (simp +contextual; omega))
  refine s1 tok [0, 1, 5, 19] ?_ (hv := by first | with_reducible exact True.intro | (first | exact fun h => ⟨h, by omega, _, hix (by omega), rfl⟩ | simp [hd]; done) | omega | simp | (simp; omega) | (simp +contextual; omega))
  refine AOpsO.nil ?_
  refine AW.cond (c := .tmp 19) (by conv => lhs; simp) trivial ?_ ?_
  · intro h19
    try simp at h19
    have hlt' := hlt.2 ⟨by omega, h19.2⟩
    refine AW.skip ?_
    refine AW.block ?_
    refine AW.regionO [] ?_
    refine s1 tok [0, 1, 20] ?_
    refine s1 tok [0, 1, 21] ?_
    refine s1 tok [0, 1, 5] ?_
    refine AOpsO.nil ?_
    exact ⟨n + 1, by omega, by omega, upds_le (by simp), rfl, by simp, by simp⟩
  · intro h19
    try simp at h19
    have hge : n = runM s k := by
      refine Nat.le_antisymm hn (Nat.not_lt.1 fun h => ?_)
      have := hlt.1 h
      have := h19 (by omega)
      simp_all
    subst hge
    refine AW.exit ?_
    simp
    refine AW.seqRegionO [] ?_
    refine s1 tok [22] ?_
    refine s1 tok [4] ?_
    refine AOpsO.nil ?_
    exact AW.ret ⟨.inr rfl, _, _, by (conv => lhs; simp), trivial, by simp⟩
def zerosM (n : Nat) : List UInt8 := List.replicate n 48
theorem zeros_ev (n : Int) (hn : n ≤ 1000000) : AFn Tryd.prog G 14 [.int .i64 n] (.str (zerosM n.toNat)) := by
  refine AFn.introU tok Tryd.func14 (by kernel_rfl) rfl rfl ?_
  simp only [Tryd.f14, enumA, List.map_cons, List.map_nil]
  refine AW.seqRegionO [] ?_
  refine s1 tok [0] ?_
  refine AOpsO.nil ?_
  refine AW.seqRegionO [] ?_
  refine s1 tok [0, 3] ?_
  refine AOpsO.nil ?_
  refine AW.seq ?_
  refine AW.seqRegionO [] ?_
  refine s1 tok [0, 3, 4] ?_
  refine AOpsO.nil ?_
  refine AW.block ?_
  refine AW.loop (α := Nat) (fun k => k ≤ n.toNat) (fun k => ⟨upds 13 [(0, .p (.int .i64 n)), (3, .p (.str (zerosM k))), (4, .p (.int .i64 k))], [], [], 0⟩) (fun k => n.toNat - k) (0) (by omega) ⟨upds_le (by simp [zerosM]), rfl, by simp, by simp⟩ ?_
  rintro k hk
  refine AW.seq ?_
  refine AW.seqRegionO [] ?_
  refine s1 tok [0, 3, 4, 5] ?_
  refine s1 tok [0, 3, 4, 5, 6] ?_
  refine s1 tok [0, 3, 4, 7] ?_
  refine AOpsO.nil ?_
  refine AW.cond (c := .tmp 7) (by conv => lhs; simp) trivial ?_ ?_
  · intro h7
    try simp at h7
    refine AW.skip ?_
    refine AW.seq ?_
    refine AW.block ?_
    refine AW.regionO [] ?_
    refine s1 tok [0, 4, 10] ?_
    refine s1 tok [0, 4, 11] ?_ (hv := by first | with_reducible exact True.intro | (simp [zerosM]; omega; done) | omega | simp | (simp; omega) | (simp +contextual; omega))
    refine s1 tok [0, 3, 4] ?_
    refine AOpsO.nil ?_
    refine AW.regionO [] ?_
    refine s1 tok [0, 3, 8] ?_
    refine s1 tok [0, 3, 9] ?_
    refine s1 tok [0, 3, 4] ?_
    refine AOpsO.nil ?_
    exact ⟨k + 1, by omega, by omega, upds_le (by simp [zerosM, List.replicate_succ']), rfl, by simp [zerosM, List.replicate_succ'], by simp [zerosM, List.replicate_succ']⟩
  · intro h7
    try simp at h7
    have hkn : k = n.toNat := by omega
    subst hkn
    refine AW.exit ?_
    simp
    refine AW.seqRegionO [] ?_
    refine s1 tok [12] ?_
    refine s1 tok [2] ?_
    refine AOpsO.nil ?_
    exact AW.ret ⟨.inr rfl, _, _, by (conv => lhs; simp), trivial, by simp⟩
def strip0 (s : List UInt8) : List UInt8 := s.dropWhile (· == 48)
def trail (d : List UInt8) : Nat → List UInt8 × Nat
  | 0 => (d, 0)
  | k + 1 => if d.getLast? = some 48 then trail d.dropLast k else (d, k + 1)
def NormM (neg : Bool) (digits : List UInt8) (scale : Nat) : Dc × Int :=
  let x := trail (strip0 digits) scale
  if x.1 = [] then (⟨false, [48], 0⟩, 0) else if 60 < x.1.length ∨ 60 < x.2 then (⟨false, [], 0⟩, 3) else (⟨neg, x.1, x.2⟩, 0)
theorem trail_le : ∀ (k : Nat) (d : List UInt8), (trail d k).1.length ≤ d.length ∧ (trail d k).2 ≤ k
  | 0, d => by simp [trail]
  | k + 1, d => by
    simp only [trail]
    split
    · have := trail_le k d.dropLast; simp at this; omega
    · simp
theorem byteAt_last {d : List UInt8} (h : 0 < d.length) : byteAt d (d.length - 1) = 48 ↔ d.getLast? = some 48 := by
  rw [List.getLast?_eq_getElem?, byteAt, List.getD_eq_getElem?_getD, byteAt_get (by omega)]
  simp only [Option.getD_some, Option.some.injEq]
  constructor
  · intro h2; exact UInt8.toNat_inj.1 (by have : ((d.getD (d.length - 1) 0).toNat : Int) = 48 := h2; show (d.getD (d.length - 1) 0).toNat = 48; omega)
  · intro h2; rw [h2]; rfl
theorem take_last (d : List UInt8) : d.take (d.length - 1) = d.dropLast := (List.dropLast_eq_take).symm
theorem Norm_ev (neg : Bool) (digits : List UInt8) (scale : Nat) (hd : digits.length ≤ 1000000) (hs : scale ≤ 1000000) : AFn Tryd.prog G 22 [.bool neg, .str digits, .int .i64 scale] (.tup [(NormM neg digits scale).1.enc, .int .i64 (NormM neg digits scale).2]) := by
  refine AFn.introU tok Tryd.func22 (by kernel_rfl) rfl rfl ?_
  simp only [Tryd.f22, enumA, List.map_cons, List.map_nil]
  refine AW.seqRegionO [] ?_
  refine s1 tok [0, 1, 2, 6] ?_
  refine s1 tok [0, 1, 2, 6] ?_
  refine AOpsO.nil ?_
  refine AW.seq ?_
  refine AW.block ?_
  refine AW.loop (α := List UInt8) (fun r => strip0 r = strip0 digits ∧ r.length ≤ digits.length) (fun r => ⟨upds 55 [(0, .p (.bool neg)), (1, .p (.str r)), (2, .p (.int .i64 scale)), (6, .ptr 6 0)], [], [(6, .vars 28 [.p (.bool false), .p (.str []), .p (.int .i64 0)])], 0⟩) (fun r => r.length) (digits) ⟨rfl, Nat.le_refl _⟩ ⟨upds_le (by simp), rfl, by simp, by simp⟩ ?_
  rintro r ⟨hr, hrl⟩
  have hix : 0 < r.length → r[0]? = some (r.getD 0 0) := fun h => byteAt_get h
  refine AW.seq ?_
  refine AW.seqRegionO [.int .u8 (byteAt r 0)] ?_
  refine s1 tok [0, 1, 2, 6, 8] ?_
  refine s1 tok [0, 1, 2, 6, 9] ?_ (hv := by first | with_reducible exact True.intro | (first | exact fun h => ⟨h, _, hix (by omega), rfl⟩ | simp; done) | omega | simp | (simp; omega) | (simp +contextual; omega))
  refine s1 tok [0, 1, 2, 6, 10] ?_ (hv := by first | with_reducible exact True.intro | (first | exact fun h => ⟨h, _, hix (by omega), rfl⟩ | simp; done) | omega | simp | (simp; omega) | (simp +contextual; omega))
  refine s1 tok [0, 1, 2, 6, 11] ?_
  refine s2 tok [0, 1, 2, 6, 11, 12] 11 rfl rfl ?_
  refine s2 tok [0, 1, 2, 6, 11, 13] 11 rfl rfl ?_ (hv := by first | with_reducible exact True.intro | (first | exact fun h => ⟨h, _, hix (by omega), rfl⟩ | simp; done) | omega | simp | (simp; omega) | (simp +contextual; omega))
  refine s2 tok [0, 1, 2, 6, 11, 14] 11 rfl rfl ?_ (hv := by first | with_reducible exact True.intro | (first | exact fun h => ⟨h, _, hix (by omega), rfl⟩ | simp; done) | omega | simp | (simp; omega) | (simp +contextual; omega))
  refine s1 tok [0, 1, 2, 6, 15] ?_ (hv := by first | with_reducible exact True.intro | (first | exact fun h => ⟨h, _, hix (by omega), rfl⟩ | simp; done) | omega | simp | (simp; omega) | (simp +contextual; omega))
  refine AOpsO.nil ?_
  refine AW.cond (c := .tmp 15) (by conv => lhs; simp) trivial ?_ ?_
  · intro h15
    try simp at h15
    obtain ⟨b, r, rfl⟩ : ∃ b r', r = b :: r' := by
      cases r with
      | nil => simp at h15
      | cons b r => exact ⟨b, r, rfl⟩
    have hb : b = 48 := UInt8.toNat_inj.1 (by have h9 : (b.toNat : Int) = 48 := h15.2; show b.toNat = 48; omega)
    have hr' : strip0 r = strip0 digits := by rw [← hr]; simp [strip0, hb]
    simp at hrl
    refine AW.skip ?_
    refine AW.block ?_
    refine AW.regionO [] ?_
    refine s1 tok [0, 2, 6, 16] ?_
    refine s1 tok [0, 2, 6, 17] ?_
    refine s1 tok [0, 1, 2, 6] ?_
    refine AOpsO.nil ?_
    exact ⟨r, ⟨hr', by omega⟩, by simp, upds_le (by simp), rfl, by simp, by simp⟩
  · intro h15
    try simp at h15
    have hr' : strip0 digits = r := by
      rw [← hr]
      cases r with
      | nil => rfl
      | cons b r =>
        have hb : b ≠ 48 := by rintro rfl; simp [byteAt] at h15
        simp [strip0, hb]
    have hN : NormM neg digits scale = (if (trail r scale).1 = [] then (⟨false, [48], 0⟩, 0) else if 60 < (trail r scale).1.length ∨ 60 < (trail r scale).2 then (⟨false, [], 0⟩, 3) else (⟨neg, (trail r scale).1, (trail r scale).2⟩, 0)) := by simp only [NormM, hr']
    rw [hN]
    clear hN hix h15 hr hr'
    refine AW.exit ?_
    simp
    refine AW.seq ?_
    refine AW.block ?_
    refine AW.loop (α := List UInt8 × Nat) (fun a => trail r scale = trail a.1 a.2 ∧ a.2 ≤ scale ∧ a.1.length ≤ digits.length) (fun a => ⟨upds 55 [(0, .p (.bool neg)), (1, .p (.str a.1)), (2, .p (.int .i64 a.2)), (6, .ptr 6 0)], [], [(6, .vars 28 [.p (.bool false), .p (.str []), .p (.int .i64 0)])], 0⟩) (fun a => a.2) ((r, scale)) ⟨rfl, Nat.le_refl _, hrl⟩ ⟨upds_le (by simp), rfl, by simp, by simp⟩ ?_
    rintro ⟨d, k⟩ ⟨ht, hk, hdl⟩
    simp only at ht hk hdl
    have hix : 0 < d.length → d[d.length - 1]? = some (d.getD (d.length - 1) 0) := fun h => byteAt_get (by omega)
    refine AW.seq ?_
    refine AW.seqRegionO [.int .u8 (byteAt d (d.length - 1))] ?_
    refine s1 tok [0, 1, 2, 6, 18] ?_
    refine s1 tok [0, 1, 2, 6, 19] ?_ (hv := by first | with_reducible exact True.intro | (first | exact fun h1 h2 => ⟨⟨h1, h2⟩, by omega, by omega⟩ | exact fun h1 h2 => ⟨⟨h1, h2⟩, by omega, _, hix h2, rfl⟩ | simp; done) | omega | simp | (simp; omega) | (simp +contextual; omega))
    refine s1 tok [0, 1, 2, 6, 20] ?_
    refine s2 tok [0, 1, 2, 6, 20, 21] 20 rfl rfl ?_
    refine s2 tok [0, 1, 2, 6, 20, 22] 20 rfl rfl ?_ (hv := by first | with_reducible exact True.intro | (first | exact fun h1 h2 => ⟨⟨h1, h2⟩, by omega, by omega⟩ | exact fun h1 h2 => ⟨⟨h1, h2⟩, by omega, _, hix h2, rfl⟩ | simp; done) | omega | simp | (simp; omega) | (simp +contextual; omega))
    refine s2 tok [0, 1, 2, 6, 20, 23] 20 rfl rfl ?_ (hv := by first | with_reducible exact True.intro | (first | exact fun h1 h2 => ⟨⟨h1, h2⟩, by omega, by omega⟩ | exact fun h1 h2 => ⟨⟨h1, h2⟩, by omega, _, hix h2, rfl⟩ | simp; done) | omega | simp | (simp; omega) | (simp +contextual; omega))
    refine s1 tok [0, 1, 2, 6, 24] ?_ (hv := by first | with_reducible exact True.intro | (first | exact fun h1 h2 => ⟨⟨h1, h2⟩, by omega, by omega⟩ | exact fun h1 h2 => ⟨⟨h1, h2⟩, by omega, _, hix h2, rfl⟩ | simp; done) | omega | simp | (simp; omega) | (simp +contextual; omega))
    refine s1 tok [0, 1, 2, 6, 25] ?_
    refine s2 tok [0, 1, 2, 6, 25, 26] 25 rfl rfl ?_
    refine s2 tok [0, 1, 2, 6, 25, 26, 27] 25 rfl rfl ?_
    refine s2 tok [0, 1, 2, 6, 25, 26, 28] 25 rfl rfl ?_ (hv := by first | with_reducible exact True.intro | (first | exact fun h1 h2 => ⟨⟨h1, h2⟩, by omega, by omega⟩ | exact fun h1 h2 => ⟨⟨h1, h2⟩, by omega, _, hix h2, rfl⟩ | simp; done) | omega | simp | (simp; omega) | (simp +contextual; omega))
    refine s2 tok [0, 1, 2, 6, 25, 26, 29] 25 rfl rfl ?_ (hv := by first | with_reducible exact True.intro | (first | exact fun h1 h2 => ⟨⟨h1, h2⟩, by omega, by omega⟩ | exact fun h1 h2 => ⟨⟨h1, h2⟩, by omega, _, hix h2, rfl⟩ | simp; done) | omega | simp | (simp; omega) | (simp +contextual; omega))
    refine s2 tok [0, 1, 2, 6, 25, 30] 25 rfl rfl ?_ (hv := by first | with_reducible exact True.intro | (first | exact fun h1 h2 => ⟨⟨h1, h2⟩, by omega, by omega⟩ | exact fun h1 h2 => ⟨⟨h1, h2⟩, by omega, _, hix h2, rfl⟩ | simp; done) | omega | simp | (simp; omega) | (simp +contextual; omega))
    refine s2 tok [0, 1, 2, 6, 25, 31] 25 rfl rfl ?_ (hv := by first | with_reducible exact True.intro | (first | exact fun h1 h2 => ⟨⟨h1, h2⟩, by omega, by omega⟩ | exact fun h1 h2 => ⟨⟨h1, h2⟩, by omega, _, hix h2, rfl⟩ | simp; done) | omega | simp | (simp; omega) | (simp +contextual; omega))
    refine s1 tok [0, 1, 2, 6, 32] ?_ (hv := by first | with_reducible exact True.intro | (first | exact fun h1 h2 => ⟨⟨h1, h2⟩, by omega, by omega⟩ | exact fun h1 h2 => ⟨⟨h1, h2⟩, by omega, _, hix h2, rfl⟩ | simp; done) | omega | simp | (simp; omega) | (simp +contextual; omega))
    refine AOpsO.nil ?_
    refine AW.cond (c := .tmp 32) (by conv => lhs; simp) trivial ?_ ?_
    · intro h32
      try simp at h32
      obtain ⟨k, rfl⟩ : ∃ k', k = k' + 1 := ⟨k - 1, by omega⟩
      have hl := (byteAt_last h32.1.2).1 h32.2
      have ht' : trail r scale = trail d.dropLast k := by rw [ht]; simp only [trail]; rw [if_pos hl]
      refine AW.skip ?_
      refine AW.block ?_
      refine AW.seqRegionO [] ?_
      refine s1 tok [0, 1, 2, 6, 33] ?_
      refine s1 tok [0, 2, 6, 33, 34] ?_
      refine s1 tok [0, 2, 6, 33, 35] ?_
      refine s1 tok [0, 2, 6, 33, 36] ?_
      refine s1 tok [0, 2, 6, 37] ?_
      refine s1 tok [0, 1, 2, 6] ?_
      refine AOpsO.nil ?_
      refine AW.regionO [] ?_
      refine s1 tok [0, 1, 6, 38] ?_
      refine s1 tok [0, 1, 6, 39] ?_
      refine s1 tok [0, 1, 2, 6] ?_
      refine AOpsO.nil ?_
      exact ⟨(d.dropLast, k), ⟨ht', by simp only []; omega, by simp; omega⟩, by simp, upds_le (by simp [take_last]), rfl, by simp [take_last], by simp [take_last]⟩
    · intro h32
      try simp at h32
      have htl : trail d k = (d, k) := by
        cases k with
        | zero => rfl
        | succ k =>
          simp only [trail]
          rw [if_neg]
          intro hl
          have hpos : 0 < d.length := by cases d with
            | nil => simp at hl
            | cons => simp
          have := (byteAt_last hpos).2 hl
          simp [hpos, this] at h32
      rw [ht, htl]
      refine AW.exit ?_
      simp
      refine AW.seq ?_
      refine AW.seqRegionO [] ?_
      refine s1 tok [0, 1, 2, 6, 40] ?_
      refine s1 tok [0, 1, 2, 6, 41] ?_
      refine AOpsO.nil ?_
      refine AW.cond (c := .tmp 41) (by conv => lhs; simp) trivial ?_ ?_
      · intro h41
        try simp at h41
        subst h41
        refine AW.seqRegionO [] ?_
        refine s1 tok [6, 42] ?_
        refine s1 tok [6] ?_
        refine s1 tok [6, 7] ?_
        refine AOpsO.nil ?_
        exact AW.ret ⟨.inr rfl, _, _, by (conv => lhs; simp), trivial, by simp⟩
      · intro h41
        try simp at h41
        refine AW.skip ?_
        refine AW.seq ?_
        refine AW.seqRegionO [] ?_
        refine s1 tok [0, 1, 2, 6, 43] ?_
        refine s1 tok [0, 1, 2, 6, 44] ?_
        refine s1 tok [0, 1, 2, 6, 45] ?_
        refine s1 tok [0, 1, 2, 6, 46] ?_
        refine s2 tok [0, 1, 2, 6, 46, 47] 46 rfl rfl ?_
        refine s2 tok [0, 1, 2, 6, 46, 48] 46 rfl rfl ?_
        refine s1 tok [0, 1, 2, 6, 49] ?_
        refine AOpsO.nil ?_
        refine AW.cond (c := .tmp 49) (by conv => lhs; simp) trivial ?_ ?_
        · intro h49
          try simp at h49
          have hbig : 60 < d.length ∨ 60 < k := by omega
          refine AW.seqRegionO [] ?_
          refine s1 tok [6, 50] ?_
          refine s1 tok [6] ?_
          refine s1 tok [6, 7] ?_
          refine AOpsO.nil ?_
          exact AW.ret ⟨.inr rfl, _, _, by (conv => lhs; simp), trivial, by simp [h41, hbig]⟩
        · intro h49
          try simp at h49
          have hbig : ¬ (60 < d.length ∨ 60 < k) := by omega
          refine AW.skip ?_
          refine AW.seqRegionO [] ?_
          refine s1 tok [1, 2, 6, 51] ?_
          refine s1 tok [2, 6, 51, 52] ?_
          refine s1 tok [6, 51, 52, 53] ?_
          refine s1 tok [6, 54] ?_
          refine s1 tok [6] ?_
          refine s1 tok [6, 7] ?_
          refine AOpsO.nil ?_
          exact AW.ret ⟨.inr rfl, _, _, by (conv => lhs; simp), trivial, by simp [h41, hbig]⟩
end Go.Proofs.YtdlejiiiifhiiaaDoor
