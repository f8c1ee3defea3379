import Derived.Test.YtdlejiiiifhiiaaGreatDoorM4
import Derived.Test.YtdlejiiiifhiiaaGreatDoorM3
import Derived.Laws.RangeString
import Derived.Lib.RuneCount
import Derived.Lib.ValidU
import Derived.Lib.LaidU8T
import Derived.Shelf.Unicode.DecodeAny
import Derived.Shelf.Strings.Repeat
import Derived.Shelf.Strings.Builder1
import Derived.Shelf.Strings.OnBuilder
import Derived.Test.YtdlejiiiifhiiaaGreatDoorProg
import Derived.Shelf.Small.Strs
/-
  A PLAIN LAW: runes of a text: those below 128 are its bytes.
-/
namespace Go.Proofs.YtdlejiiiifhiiaaGreatDoor
open Sy Go
set_option linter.unusedSimpArgs false
set_option linter.unusedVariables false
theorem decL_pos {s : List UInt8} {pos : Nat} (h : pos < s.length) : 1 ≤ (decL s pos).2 := Lib.decode_width_pos _ _ (by simpa [ByteArray.size] using h)
theorem decL_ascii {s : List UInt8} {pos : Nat} (h : pos < s.length) (ha : (s.getD pos 0).toNat < 128) : decL s pos = ((s.getD pos 0).toNat, 1) := by
  have hs : pos < (⟨s.toArray⟩ : ByteArray).size := by simpa [ByteArray.size] using h
  have e : (⟨s.toArray⟩ : ByteArray)[pos]'hs = s.getD pos 0 := by simp [List.getD_eq_getElem?_getD, h]; rfl
  unfold decL
  rw [decode_ascii _ _ hs (by rw [e]; exact ha), e]
theorem decL_big {s : List UInt8} {pos : Nat} (h : pos < s.length) (ha : 128 ≤ (s.getD pos 0).toNat) : 128 ≤ (decL s pos).1 := by
  have e : ((⟨s.toArray⟩ : ByteArray).get! (pos + 0)).toNat = (s.getD pos 0).toNat := by
    simp [ByteArray.get!, List.getD_eq_getElem?_getD, h]
  unfold decL Utf8.decode
  simp only [e]
  rw [if_neg (by omega)]
  split
  · split
    · simp only [ge_iff_le] at *; omega
    · simp [Utf8.runeError]
  · split
    · split
      · rename_i hc; simp only [ge_iff_le, Bool.and_eq_true, decide_eq_true_eq] at hc; omega
      · simp [Utf8.runeError]
    · split
      · split
        · rename_i hc; simp only [ge_iff_le, Bool.and_eq_true, decide_eq_true_eq] at hc; omega
        · simp [Utf8.runeError]
      · simp [Utf8.runeError]
/-- The place of the first rune that is so. -/
def idxF (p : Int → Bool) (s : List UInt8) : Nat → Nat → Int
  | 0, _ => -1
  | f + 1, pos => if pos < s.length then (if p (decL s pos).1 then (pos : Int) else idxF p s f (pos + (decL s pos).2)) else -1
def indexF (p : Int → Bool) (s : List UInt8) : Int := idxF p s (s.length + 1) 0
theorem idxF_fuel (p : Int → Bool) (s : List UInt8) : ∀ (f g pos : Nat), s.length < pos + f → s.length < pos + g → idxF p s f pos = idxF p s g pos
  | 0, 0, _, _, _ => rfl
  | 0, g + 1, pos, h, _ => by simp only [idxF]; rw [if_neg (by omega)]
  | f + 1, 0, pos, _, h => by simp only [idxF]; rw [if_neg (by omega)]
  | f + 1, g + 1, pos, hf, hg => by
    simp only [idxF]
    by_cases h : pos < s.length
    · rw [if_pos h, if_pos h]
      split
      · rfl
      · have := decL_pos h
        exact idxF_fuel p s f g _ (by omega) (by omega)
    · rw [if_neg h, if_neg h]
def idxAt (p : Int → Bool) (s : List UInt8) (pos : Nat) : Int := idxF p s (s.length + 1 - pos) pos
theorem idxAt_end {p : Int → Bool} {s : List UInt8} {pos : Nat} (h : ¬ pos < s.length) : idxAt p s pos = -1 := by
  unfold idxAt; cases hf : s.length + 1 - pos with
  | zero => rfl
  | succ f => simp only [idxF]; rw [if_neg h]
theorem idxAt_hit {p : Int → Bool} {s : List UInt8} {pos : Nat} (h : pos < s.length) (hp : p (decL s pos).1 = true) : idxAt p s pos = pos := by
  unfold idxAt; rw [show s.length + 1 - pos = (s.length - pos) + 1 by omega]; simp only [idxF]; rw [if_pos h, if_pos hp]
theorem idxAt_miss {p : Int → Bool} {s : List UInt8} {pos : Nat} (h : pos < s.length) (hp : p (decL s pos).1 = false) : idxAt p s pos = idxAt p s (pos + (decL s pos).2) := by
  unfold idxAt; rw [show s.length + 1 - pos = (s.length - pos) + 1 by omega]; simp only [idxF]
  have := decL_pos h
  rw [if_pos h, if_neg (by simp [hp])]; exact idxF_fuel p s _ _ _ (by omega) (by omega)
theorem indexF_at (p : Int → Bool) (s : List UInt8) : indexF p s = idxAt p s 0 := by simp [indexF, idxAt]
/-- Where a rune of 128 or more is so, the first such is the first byte that is so. -/
theorem idxAt_bytes {p : Int → Bool} (hbig : ∀ n : Int, 128 ≤ n → p n = true) (s : List UInt8) : ∀ (f pos : Nat), f = s.length - pos → pos ≤ s.length → idxAt p s pos = if (s.drop pos).all (fun b => !p b.toNat) then -1 else ((pos + ((s.drop pos).takeWhile fun b => !p b.toNat).length : Nat) : Int)
  | 0, pos, hf, hp => by
    rw [idxAt_end (by omega), List.drop_eq_nil_of_le (by omega)]; simp
  | f + 1, pos, hf, hp => by
    have hlt : pos < s.length := by omega
    have hd : s.drop pos = s.getD pos 0 :: s.drop (pos + 1) := by
      rw [List.drop_eq_getElem_cons hlt]; congr 1; simp [List.getD_eq_getElem?_getD, hlt]
    rw [hd]
    have hda0 := fun h => decL_ascii (s := s) (pos := pos) hlt h
    have hdb0 := fun h => decL_big (s := s) (pos := pos) hlt h
    clear hd
    generalize s.getD pos 0 = c at *
    by_cases ha : c.toNat < 128
    · have hda := hda0 ha
      cases hpb : p ((c.toNat : Nat) : Int) with
      | true => rw [idxAt_hit hlt (by rw [hda]; exact hpb)]; simp [hpb]
      | false =>
        rw [idxAt_miss hlt (by rw [hda]; exact hpb), hda, idxAt_bytes hbig s f (pos + 1) (by omega) (by omega)]
        simp only [List.all_cons, hpb, Bool.not_false, Bool.true_and, List.takeWhile_cons, if_true, List.length_cons]
        split <;> first | rfl | (congr 1; omega)
    · have hb := hdb0 (by omega)
      rw [idxAt_hit hlt (hbig _ (by omega))]
      have : p ((c.toNat : Nat) : Int) = true := hbig _ (by omega)
      simp [this]
theorem indexF_bytes {p : Int → Bool} (hbig : ∀ n : Int, 128 ≤ n → p n = true) (s : List UInt8) : indexF p s = if s.all (fun b => !p b.toNat) then -1 else (((s.takeWhile fun b => !p b.toNat).length : Nat) : Int) := by
  rw [indexF_at, idxAt_bytes hbig s _ 0 rfl (by omega)]; simp
theorem indexF_lt (p : Int → Bool) (s : List UInt8) : -1 ≤ indexF p s ∧ indexF p s ≤ s.length := by
  have key : ∀ (f pos : Nat), pos ≤ s.length → -1 ≤ idxF p s f pos ∧ idxF p s f pos ≤ s.length := by
    intro f
    induction f with
    | zero => intro pos _; simp [idxF] <;> omega
    | succ f ih =>
      intro pos hpos
      simp only [idxF]
      split
      · split
        · omega
        · by_cases h : pos + (decL s pos).2 ≤ s.length
          · exact ih _ h
          · cases f with
            | zero => simp [idxF] <;> omega
            | succ f => simp only [idxF]; rw [if_neg (by omega)]; omega
      · omega
  exact key _ 0 (by omega)
end Go.Proofs.YtdlejiiiifhiiaaGreatDoor
namespace Go.Proofs.YtdlejiiiifhiiaaGreatDoor
open Sy Go
set_option maxRecDepth 100000
set_option maxHeartbeats 4000000
set_option linter.unusedSimpArgs false
set_option linter.unusedVariables false
variable {G : Glob}

theorem indexFunc_ev (s : List UInt8) (g : FuncId) (p : Int → Bool) (hg : ∀ n : Int, AFn Tryz.prog G g [.int .i32 n] (.bool (p n))) : AFn Tryz.prog G 118 [.str s, .fn g, .bool true] (.int .i64 (indexF p s)) := by
  refine AFn.introU tok Tryz.func118 (by kernel_rfl) rfl rfl ?_
  simp only [Tryz.f118, enumA, List.map_cons, List.map_nil]
  refine AW.seqRegionO [] ?_
  refine s1 tok [0, 1, 2] ?_
  refine AOpsO.nil ?_
  refine AW.seq ?_
  refine AW.seqRegionO [] ?_
  refine s1 tok [1, 2, 9] ?_
  refine s1 tok [1, 2, 10] ?_
  refine AOpsO.nil ?_
  refine AW.block ?_
  refine AW.loop (α := Nat) (fun pos => idxAt p s pos = indexF p s) (fun pos => ⟨upds 21 [(1, .p (.fn g)), (2, .p (.bool true)), (10, .it 10)], [], [(10, .iter s pos)], 0⟩) (fun pos => s.length - pos) (0) (indexF_at p s).symm ⟨upds_le (by simp), rfl, by simp, by simp⟩ ?_
  rintro pos hi
  have hpos : pos < s.length → 1 ≤ (decL s pos).2 := decL_pos
  by_cases hs2 : pos < s.length
  ·
    refine AW.seqRegionO [.bool true] ?_
    refine s1 tok [1, 2, 10, 11] ?_ (hv := by first | with_reducible exact True.intro | (simpa using hs2; done) | omega | simp | (simp; omega) | (simp +contextual; omega))
    refine s1 tok [1, 2, 10, 11, 12] ?_
    refine AOpsO.nil ?_
    refine AW.seq ?_
    refine AW.cond (c := .tmp 12) (by conv => lhs; simp) trivial ?_ ?_
    · intro h12
      try simp at h12
      refine AW.skip ?_
      refine AW.block ?_
      refine AW.seqRegionO [] ?_
      refine s1 tok [1, 2, 10, 11, 13] ?_
      refine s1 tok [1, 2, 10, 13, 14] ?_
      refine s1 tok [1, 2, 7, 10, 14] ?_
      refine s1 tok [1, 2, 7, 8, 10] ?_
      refine AOpsO.nil ?_
      refine AW.seqRegionO [.nilp, .bool (p (decL s pos).1)] ?_
      refine s1 tok [1, 2, 7, 8, 10, 15] ?_
      refine s1 tok [1, 2, 7, 10, 15, 16] ?_
      refine s1 tok [1, 2, 7, 10, 17] ?_ (hv := by first | with_reducible exact True.intro | (exact hg _; done) | omega | simp | (simp; omega) | (simp +contextual; omega))
      refine s1 tok [1, 2, 7, 10, 17, 18] ?_
      refine s1 tok [1, 2, 7, 10, 19] ?_ (hv := by first | with_reducible exact True.intro | (exact hg _; done) | omega | simp | (simp; omega) | (simp +contextual; omega))
      refine AOpsO.nil ?_
      refine AW.cond (c := .tmp 19) (by conv => lhs; simp) trivial ?_ ?_
      · intro h19
        try simp at h19
        have hI : indexF p s = pos := by rw [← hi, idxAt_hit hs2 (by simpa using h19)]
        refine AW.seqRegionO [] ?_
        refine s1 tok [20] ?_
        refine s1 tok [6] ?_
        refine AOpsO.nil ?_
        exact AW.ret ⟨.inr rfl, _, _, by (conv => lhs; simp), trivial, by simp [hI]⟩
      · intro h19
        try simp at h19
        have hnx : idxAt p s (pos + (decL s pos).2) = indexF p s := by rw [← idxAt_miss hs2 (by simpa using h19)]; exact hi
        refine AW.skip ?_
        exact ⟨pos + (decL s pos).2, hnx, by have := hpos hs2; omega, upds_le (by simp), rfl, by simp, by simp⟩
    · intro h12
      try simp at h12
  ·
    refine AW.seqRegionO [.bool false] ?_
    refine s1 tok [1, 2, 10, 11] ?_ (hv := by first | with_reducible exact True.intro | (simpa using hs2; done) | omega | simp | (simp; omega) | (simp +contextual; omega))
    refine s1 tok [1, 2, 10, 11, 12] ?_
    refine AOpsO.nil ?_
    refine AW.seq ?_
    refine AW.cond (c := .tmp 12) (by conv => lhs; simp) trivial ?_ ?_
    · intro h12
      try simp at h12
    · intro h12
      try simp at h12
      refine AW.exit ?_
      simp
      refine AW.seqRegionO [] ?_
      refine s1 tok [6] ?_
      refine AOpsO.nil ?_
      exact AW.ret ⟨.inr rfl, _, _, by (conv => lhs; simp), trivial, by simp [← hi, idxAt_end hs2]⟩
theorem IndexFunc_ev (s : List UInt8) (g : FuncId) (p : Int → Bool) (hg : ∀ n : Int, AFn Tryz.prog G g [.int .i32 n] (.bool (p n))) : AFn Tryz.prog G 109 [.str s, .fn g] (.int .i64 (indexF p s)) := by
  refine AFn.introU tok Tryz.func109 (by kernel_rfl) rfl rfl ?_
  simp only [Tryz.f109, enumA, List.map_cons, List.map_nil]
  refine AW.seqRegionO [] ?_
  refine s1 tok [0, 1] ?_
  refine AOpsO.nil ?_
  refine AW.seqRegionO [.nilp, .int .i64 (indexF p s)] ?_
  refine s1 tok [1, 5] ?_
  refine s1 tok [5, 6] ?_
  refine s1 tok [7] ?_ (hv := by first | with_reducible exact True.intro | (exact indexFunc_ev s g p hg; done) | omega | simp | (simp; omega) | (simp +contextual; omega))
  refine s1 tok [4] ?_
  refine AOpsO.nil ?_
  exact AW.ret ⟨.inr rfl, _, _, by (conv => lhs; simp), trivial, by simp⟩
-- no ContainsFunc_ev
end Go.Proofs.YtdlejiiiifhiiaaGreatDoor
namespace Go.Proofs.YtdlejiiiifhiiaaGreatDoor
open Sy Go
set_option maxRecDepth 100000
set_option linter.unusedSimpArgs false
set_option linter.unusedVariables false

/-- A decimal. -/
structure Dc where
  neg : Bool
  digits : List UInt8
  scale : Int
  deriving DecidableEq
@[simp] def Dc.enc (d : Dc) : PD := .agg [.bool d.neg, .str d.digits, .int .i64 d.scale]
/-- A value. -/
inductive Val where
  | mk (kind mask : Int) (num : Dc) (text : List UInt8) (keys : List (List UInt8)) (kids : List Val) (code : Int)
def Val.kind : Val → Int
  | .mk k _ _ _ _ _ _ => k
def Val.mask : Val → Int
  | .mk _ m _ _ _ _ _ => m
def Val.num : Val → Dc
  | .mk _ _ n _ _ _ _ => n
def Val.text : Val → List UInt8
  | .mk _ _ _ t _ _ _ => t
def Val.keys : Val → List (List UInt8)
  | .mk _ _ _ _ ks _ _ => ks
def Val.kids : Val → List Val
  | .mk _ _ _ _ _ vs _ => vs
def Val.code : Val → Int
  | .mk _ _ _ _ _ _ c => c
@[simp] theorem Val.kind_mk (k m : Int) (n : Dc) (t : List UInt8) (ks : List (List UInt8)) (vs : List Val) (c : Int) : (Val.mk k m n t ks vs c).kind = k := rfl
@[simp] theorem Val.mask_mk (k m : Int) (n : Dc) (t : List UInt8) (ks : List (List UInt8)) (vs : List Val) (c : Int) : (Val.mk k m n t ks vs c).mask = m := rfl
@[simp] theorem Val.num_mk (k m : Int) (n : Dc) (t : List UInt8) (ks : List (List UInt8)) (vs : List Val) (c : Int) : (Val.mk k m n t ks vs c).num = n := rfl
@[simp] theorem Val.text_mk (k m : Int) (n : Dc) (t : List UInt8) (ks : List (List UInt8)) (vs : List Val) (c : Int) : (Val.mk k m n t ks vs c).text = t := rfl
@[simp] theorem Val.keys_mk (k m : Int) (n : Dc) (t : List UInt8) (ks : List (List UInt8)) (vs : List Val) (c : Int) : (Val.mk k m n t ks vs c).keys = ks := rfl
@[simp] theorem Val.kids_mk (k m : Int) (n : Dc) (t : List UInt8) (ks : List (List UInt8)) (vs : List Val) (c : Int) : (Val.mk k m n t ks vs c).kids = vs := rfl
@[simp] theorem Val.code_mk (k m : Int) (n : Dc) (t : List UInt8) (ks : List (List UInt8)) (vs : List Val) (c : Int) : (Val.mk k m n t ks vs c).code = c := rfl
mutual
def Val.enc : Val → PD
  | .mk k m n t ks vs c => .agg [.int .i64 k, .int .u64 m, .bool n.neg, .str n.digits, .int .i64 n.scale, .str t, .sl 1 (ks.map PD.str), .sl 9 (Val.encL vs), .int .i64 c]
def Val.encL : List Val → List PD
  | [] => []
  | v :: vs => Val.enc v :: Val.encL vs
end
def dc0 : Dc := ⟨false, [], 0⟩
def nullV : Val := .mk 1 0 dc0 [] [] [] 0
theorem Val.encL_map : ∀ l, Val.encL l = l.map Val.enc
  | [] => by simp only [Val.encL, List.map_nil]
  | v :: vs => by simp only [Val.encL, List.map_cons, Val.encL_map vs]
@[simp] theorem Val.enc_def (v : Val) : v.enc = .agg [.int .i64 v.kind, .int .u64 v.mask, .bool v.num.neg, .str v.num.digits, .int .i64 v.num.scale, .str v.text, .sl 1 (v.keys.map PD.str), .sl 9 (v.kids.map Val.enc), .int .i64 v.code] := by
  cases v; simp only [Val.enc, Val.encL_map, Val.kind, Val.mask, Val.num, Val.text, Val.keys, Val.kids, Val.code]
mutual
def Val.sz : Val → Nat
  | .mk _ _ _ _ _ vs _ => 1 + Val.szL vs
def Val.szL : List Val → Nat
  | [] => 0
  | v :: vs => Val.sz v + Val.szL vs
end
theorem Val.szL_mem {k : Val} : ∀ {l : List Val}, k ∈ l → Val.sz k ≤ Val.szL l
  | v :: vs, h => by
    simp only [Val.szL]
    rcases List.mem_cons.1 h with rfl | h
    · omega
    · have := Val.szL_mem h; omega
theorem Val.sz_kid {v k : Val} (h : k ∈ v.kids) : Val.sz k < Val.sz v := by
  cases v; simp only [Val.kids] at h; simp only [Val.sz]; have := Val.szL_mem h; omega
theorem Val.induct {p : Val → Prop} (h : ∀ v, (∀ k ∈ v.kids, p k) → p v) (v : Val) : p v := by
  have key : ∀ n v, Val.sz v = n → p v := by
    intro n
    induction n using Nat.strongRecOn with
    | _ n ih => intro v hv; exact h v fun k hk => ih _ (hv ▸ Val.sz_kid hk) k rfl
  exact key _ v rfl
theorem Val.ext {a b : Val} (h1 : a.kind = b.kind) (h2 : a.mask = b.mask) (h3 : a.num = b.num) (h4 : a.text = b.text) (h5 : a.keys = b.keys) (h6 : a.kids = b.kids) (h7 : a.code = b.code) : a = b := by
  cases a; cases b; simp_all [Val.kind, Val.mask, Val.num, Val.text, Val.keys, Val.kids, Val.code]
theorem Dc.ext' {a b : Dc} (h1 : a.neg = b.neg) (h2 : a.digits = b.digits) (h3 : a.scale = b.scale) : a = b := by cases a; cases b; simp_all
end Go.Proofs.YtdlejiiiifhiiaaGreatDoor
namespace Go.Proofs.YtdlejiiiifhiiaaGreatDoor
open Sy Go
set_option maxRecDepth 100000
set_option maxHeartbeats 4000000
set_option linter.unusedSimpArgs false
set_option linter.unusedVariables false
variable {G : Glob}

def digitM (n : Int) : Bool := decide (48 ≤ n) && decide (n ≤ 57)
theorem digit_ev (n : Int) : AFn Tryz.prog G 59 [.int .u8 n] (.bool (digitM n)) := by
  refine AFn.introU tok Tryz.func59 (by kernel_rfl) rfl rfl ?_
  simp only [Tryz.f59, enumA, List.map_cons, List.map_nil]
  refine AW.seqRegionO [] ?_
  refine s1 tok [0] ?_
  refine AOpsO.nil ?_
  refine AW.seqRegionO [] ?_
  refine s1 tok [0, 3] ?_
  refine s1 tok [0, 4] ?_
  refine s1 tok [0, 5] ?_
  refine s2 tok [5, 6] 5 rfl rfl ?_
  refine s2 tok [5, 7] 5 rfl rfl ?_
  refine s1 tok [8] ?_
  refine s1 tok [2] ?_
  refine AOpsO.nil ?_
  exact AW.ret ⟨.inr rfl, _, _, by (conv => lhs; simp), trivial, by simp [digitM]⟩
def byteAt (s : List UInt8) (i : Nat) : Int := ((s.getD i 0).toNat : Int)
theorem byteAt_get {s : List UInt8} {i : Nat} (h : i < s.length) : s[i]? = some (s.getD i 0) := by simp [List.getD_eq_getElem?_getD, h]
def runM (s : List UInt8) (k : Nat) : Nat := ((s.drop k).takeWhile fun b => digitM b.toNat).length
theorem takeWhile_lt {p : UInt8 → Bool} : ∀ {l : List UInt8} {n : Nat}, n ≤ (l.takeWhile p).length → ((n < (l.takeWhile p).length) ↔ ∃ b, l[n]? = some b ∧ p b = true)
  | [], n, h => by simp at h; subst h; simp
  | a :: l, n, h => by
    rw [List.takeWhile_cons] at h ⊢
    by_cases ha : p a = true
    · rw [if_pos ha] at h ⊢
      cases n with
      | zero => simp [ha]
      | succ n => simpa using takeWhile_lt (l := l) (n := n) (by simpa using h)
    · rw [if_neg ha] at h ⊢
      simp at h; subst h
      simp [ha]
theorem runM_lt {s : List UInt8} {k n : Nat} (h : n ≤ runM s k) : n < runM s k ↔ (k + n < s.length ∧ digitM (byteAt s (k + n)) = true) := by
  unfold runM at h ⊢
  rw [takeWhile_lt h]
  constructor
  · rintro ⟨b, hb, hd⟩
    rw [List.getElem?_drop] at hb
    have := (List.getElem?_eq_some_iff.1 hb).1
    refine ⟨this, ?_⟩
    rw [byteAt, List.getD_eq_getElem?_getD, hb]; exact hd
  · rintro ⟨h1, h2⟩
    exact ⟨s.getD (k + n) 0, by rw [List.getElem?_drop]; exact byteAt_get h1, h2⟩
theorem runM_le (s : List UInt8) (k : Nat) : runM s k ≤ s.length := by
  unfold runM
  have := (List.takeWhile_sublist (l := s.drop k) fun b : UInt8 => digitM b.toNat).length_le
  simp at this; omega
theorem run_ev (s : List UInt8) (k : Nat) (hs : s.length ≤ 1000000) (hk : k ≤ 1000000) : AFn Tryz.prog G 33 [.str s, .int .i64 k] (.int .i64 (runM s k)) := by
  refine AFn.introU tok Tryz.func33 (by kernel_rfl) rfl rfl ?_
  simp only [Tryz.f33, enumA, List.map_cons, List.map_nil]
  refine AW.seqRegionO [] ?_
  refine s1 tok [0, 1] ?_
  refine AOpsO.nil ?_
  refine AW.seqRegionO [] ?_
  refine s1 tok [0, 1, 5] ?_
  refine AOpsO.nil ?_
  refine AW.seq ?_
  refine AW.block ?_
  refine AW.loop (α := Nat) (fun n => n ≤ runM s k) (fun n => ⟨upds 23 [(0, .p (.str s)), (1, .p (.int .i64 k)), (5, .p (.int .i64 n))], [], [], 0⟩) (fun n => runM s k - n) (0) (by omega) ⟨upds_le (by simp), rfl, by simp, by simp⟩ ?_
  rintro n hn
  have hrl := runM_le s k
  have hlt := runM_lt hn
  have hd := digit_ev (G := G) (byteAt s (k + n))
  have hix : k + n < s.length → s[((k : Int) + n).toNat]? = some (s.getD (k + n) 0) := fun h => by rw [show ((k : Int) + n).toNat = k + n by omega]; exact byteAt_get h
  refine AW.seq ?_
  refine AW.seqRegionO [.int .u8 (byteAt s (k + n)), .nilp, .bool (digitM (byteAt s (k + n)))] ?_
  refine s1 tok [0, 1, 5, 6] ?_
  refine s1 tok [0, 1, 5, 6, 7] ?_
  refine s1 tok [0, 1, 5, 8] ?_ (hv := by first | with_reducible exact True.intro | (first | exact fun h => ⟨h, by omega, _, hix (by omega), rfl⟩ | simp [hd]; done) | omega | simp | (simp; omega) | (simp +contextual; omega))
  refine s1 tok [0, 1, 5, 8, 9] ?_
  refine s1 tok [0, 1, 5, 8, 10] ?_ (hv := by first | with_reducible exact True.intro | (first | exact fun h => ⟨h, by omega, _, hix (by omega), rfl⟩ | simp [hd]; done) | omega | simp | (simp; omega) | (simp +contextual; omega))
  refine s1 tok [0, 1, 5, 11] ?_ (hv := by first | with_reducible exact True.intro | (first | exact fun h => ⟨h, by omega, _, hix (by omega), rfl⟩ | simp [hd]; done) | omega | simp | (simp; omega) | (simp +contextual; omega))
  refine s1 tok [0, 1, 5, 12] ?_
  refine s2 tok [0, 1, 5, 12, 13] 12 rfl rfl ?_
  refine s2 tok [0, 1, 5, 12, 13, 14] 12 rfl rfl ?_
  refine s2 tok [0, 1, 5, 12, 13, 14, 15] 12 rfl rfl ?_
  refine s2 tok [0, 1, 5, 12, 13, 16] 12 rfl rfl ?_ (hv := by first | with_reducible exact True.intro | (first | exact fun h => ⟨h, by omega, _, hix (by omega), rfl⟩ | simp [hd]; done) | omega | simp | (simp; omega) | (simp +contextual; omega))
  refine s2 tok [0, 1, 5, 12, 17] 12 rfl rfl ?_ (hv := by first | with_reducible exact True.intro | (first | exact fun h => ⟨h, by omega, _, hix (by omega), rfl⟩ | simp [hd]; done) | omega | simp | (simp; omega) | (simp +contextual; omega))
  refine s2 tok [0, 1, 5, 12, 18] 12 rfl rfl ?_ (hv := by first | with_reducible exact True.intro | (first | exact fun h => ⟨h, by omega, _, hix (by omega), rfl⟩ | simp [hd]; done) | omega | simp | (simp; omega) | (simp +contextual; omega))
  refine s1 tok [0, 1, 5, 19] ?_ (hv := by first | with_reducible exact True.intro | (first | exact fun h => ⟨h, by omega, _, hix (by omega), rfl⟩ | simp [hd]; done) | omega | simp | (simp; omega) | (simp +contextual; omega))
  refine AOpsO.nil ?_
  refine AW.cond (c := .tmp 19) (by conv => lhs; simp) trivial ?_ ?_
  · intro h19
    try simp at h19
    have hlt' := hlt.2 ⟨by omega, h19.2⟩
    refine AW.skip ?_
    refine AW.block ?_
    refine AW.regionO [] ?_
    refine s1 tok [0, 1, 20] ?_
    refine s1 tok [0, 1, 21] ?_
    refine s1 tok [0, 1, 5] ?_
    refine AOpsO.nil ?_
    exact ⟨n + 1, by omega, by omega, upds_le (by simp), rfl, by simp, by simp⟩
  · intro h19
    try simp at h19
    have hge : n = runM s k := by
      refine Nat.le_antisymm hn (Nat.not_lt.1 fun h => ?_)
      have := hlt.1 h
      have := h19 (by omega)
      simp_all
    subst hge
    refine AW.exit ?_
    simp
    refine AW.seqRegionO [] ?_
    refine s1 tok [22] ?_
    refine s1 tok [4] ?_
    refine AOpsO.nil ?_
    exact AW.ret ⟨.inr rfl, _, _, by (conv => lhs; simp), trivial, by simp⟩
def zerosM (n : Nat) : List UInt8 := List.replicate n 48
theorem zeros_ev (n : Int) (hn : n ≤ 1000000) : AFn Tryz.prog G 34 [.int .i64 n] (.str (zerosM n.toNat)) := by
  refine AFn.introU tok Tryz.func34 (by kernel_rfl) rfl rfl ?_
  simp only [Tryz.f34, enumA, List.map_cons, List.map_nil]
  refine AW.seqRegionO [] ?_
  refine s1 tok [0] ?_
  refine AOpsO.nil ?_
  refine AW.seqRegionO [] ?_
  refine s1 tok [0, 3] ?_
  refine AOpsO.nil ?_
  refine AW.seq ?_
  refine AW.seqRegionO [] ?_
  refine s1 tok [0, 3, 4] ?_
  refine AOpsO.nil ?_
  refine AW.block ?_
  refine AW.loop (α := Nat) (fun k => k ≤ n.toNat) (fun k => ⟨upds 13 [(0, .p (.int .i64 n)), (3, .p (.str (zerosM k))), (4, .p (.int .i64 k))], [], [], 0⟩) (fun k => n.toNat - k) (0) (by omega) ⟨upds_le (by simp [zerosM]), rfl, by simp, by simp⟩ ?_
  rintro k hk
  refine AW.seq ?_
  refine AW.seqRegionO [] ?_
  refine s1 tok [0, 3, 4, 5] ?_
  refine s1 tok [0, 3, 4, 5, 6] ?_
  refine s1 tok [0, 3, 4, 7] ?_
  refine AOpsO.nil ?_
  refine AW.cond (c := .tmp 7) (by conv => lhs; simp) trivial ?_ ?_
  · intro h7
    try simp at h7
    refine AW.skip ?_
    refine AW.seq ?_
    refine AW.block ?_
    refine AW.regionO [] ?_
    refine s1 tok [0, 4, 10] ?_
    refine s1 tok [0, 4, 11] ?_ (hv := by first | with_reducible exact True.intro | (simp [zerosM]; omega; done) | omega | simp | (simp; omega) | (simp +contextual; omega))
    refine s1 tok [0, 3, 4] ?_
    refine AOpsO.nil ?_
    refine AW.regionO [] ?_
    refine s1 tok [0, 3, 8] ?_
    refine s1 tok [0, 3, 9] ?_
    refine s1 tok [0, 3, 4] ?_
    refine AOpsO.nil ?_
    exact ⟨k + 1, by omega, by omega, upds_le (by simp [zerosM, List.replicate_succ']), rfl, by simp [zerosM, List.replicate_succ'], by simp [zerosM, List.replicate_succ']⟩
  · intro h7
    try simp at h7
    have hkn : k = n.toNat := by omega
    subst hkn
    refine AW.exit ?_
    simp
    refine AW.seqRegionO [] ?_
    refine s1 tok [12] ?_
    refine s1 tok [2] ?_
    refine AOpsO.nil ?_
    exact AW.ret ⟨.inr rfl, _, _, by (conv => lhs; simp), trivial, by simp⟩
def strip0 (s : List UInt8) : List UInt8 := s.dropWhile (· == 48)
def trail (d : List UInt8) : Nat → List UInt8 × Nat
  | 0 => (d, 0)
  | k + 1 => if d.getLast? = some 48 then trail d.dropLast k else (d, k + 1)
def NormM (neg : Bool) (digits : List UInt8) (scale : Nat) : Dc × Int :=
  let x := trail (strip0 digits) scale
  if x.1 = [] then (⟨false, [48], 0⟩, 0) else if 60 < x.1.length ∨ 60 < x.2 then (⟨false, [], 0⟩, 3) else (⟨neg, x.1, x.2⟩, 0)
theorem trail_le : ∀ (k : Nat) (d : List UInt8), (trail d k).1.length ≤ d.length ∧ (trail d k).2 ≤ k
  | 0, d => by simp [trail]
  | k + 1, d => by
    simp only [trail]
    split
    · have := trail_le k d.dropLast; simp at this; omega
    · simp
theorem byteAt_last {d : List UInt8} (h : 0 < d.length) : byteAt d (d.length - 1) = 48 ↔ d.getLast? = some 48 := by
  rw [List.getLast?_eq_getElem?, byteAt, List.getD_eq_getElem?_getD, byteAt_get (by omega)]
  simp only [Option.getD_some, Option.some.injEq]
  constructor
  · intro h2; exact UInt8.toNat_inj.1 (by have : ((d.getD (d.length - 1) 0).toNat : Int) = 48 := h2; show (d.getD (d.length - 1) 0).toNat = 48; omega)
  · intro h2; rw [h2]; rfl
theorem take_last (d : List UInt8) : d.take (d.length - 1) = d.dropLast := (List.dropLast_eq_take).symm
theorem Norm_ev (neg : Bool) (digits : List UInt8) (scale : Nat) (hd : digits.length ≤ 1000000) (hs : scale ≤ 1000000) : AFn Tryz.prog G 35 [.bool neg, .str digits, .int .i64 scale] (.tup [(NormM neg digits scale).1.enc, .int .i64 (NormM neg digits scale).2]) := by
  refine AFn.introU tok Tryz.func35 (by kernel_rfl) rfl rfl ?_
  simp only [Tryz.f35, enumA, List.map_cons, List.map_nil]
  refine AW.seqRegionO [] ?_
  refine s1 tok [0, 1, 2, 6] ?_
  refine s1 tok [0, 1, 2, 6] ?_
  refine AOpsO.nil ?_
  refine AW.seq ?_
  refine AW.block ?_
  refine AW.loop (α := List UInt8) (fun r => strip0 r = strip0 digits ∧ r.length ≤ digits.length) (fun r => ⟨upds 55 [(0, .p (.bool neg)), (1, .p (.str r)), (2, .p (.int .i64 scale)), (6, .ptr 6 0)], [], [(6, .vars 26 [.p (.bool false), .p (.str []), .p (.int .i64 0)])], 0⟩) (fun r => r.length) (digits) ⟨rfl, Nat.le_refl _⟩ ⟨upds_le (by simp), rfl, by simp, by simp⟩ ?_
  rintro r ⟨hr, hrl⟩
  have hix : 0 < r.length → r[0]? = some (r.getD 0 0) := fun h => byteAt_get h
  refine AW.seq ?_
  refine AW.seqRegionO [.int .u8 (byteAt r 0)] ?_
  refine s1 tok [0, 1, 2, 6, 8] ?_
  refine s1 tok [0, 1, 2, 6, 9] ?_ (hv := by first | with_reducible exact True.intro | (first | exact fun h => ⟨h, _, hix (by omega), rfl⟩ | simp; done) | omega | simp | (simp; omega) | (simp +contextual; omega))
  refine s1 tok [0, 1, 2, 6, 10] ?_ (hv := by first | with_reducible exact True.intro | (first | exact fun h => ⟨h, _, hix (by omega), rfl⟩ | simp; done) | omega | simp | (simp; omega) | (simp +contextual; omega))
  refine s1 tok [0, 1, 2, 6, 11] ?_
  refine s2 tok [0, 1, 2, 6, 11, 12] 11 rfl rfl ?_
  refine s2 tok [0, 1, 2, 6, 11, 13] 11 rfl rfl ?_ (hv := by first | with_reducible exact True.intro | (first | exact fun h => ⟨h, _, hix (by omega), rfl⟩ | simp; done) | omega | simp | (simp; omega) | (simp +contextual; omega))
  refine s2 tok [0, 1, 2, 6, 11, 14] 11 rfl rfl ?_ (hv := by first | with_reducible exact True.intro | (first | exact fun h => ⟨h, _, hix (by omega), rfl⟩ | simp; done) | omega | simp | (simp; omega) | (simp +contextual; omega))
  refine s1 tok [0, 1, 2, 6, 15] ?_ (hv := by first | with_reducible exact True.intro | (first | exact fun h => ⟨h, _, hix (by omega), rfl⟩ | simp; done) | omega | simp | (simp; omega) | (simp +contextual; omega))
  refine AOpsO.nil ?_
  refine AW.cond (c := .tmp 15) (by conv => lhs; simp) trivial ?_ ?_
  · intro h15
    try simp at h15
    obtain ⟨b, r, rfl⟩ : ∃ b r', r = b :: r' := by
      cases r with
      | nil => simp at h15
      | cons b r => exact ⟨b, r, rfl⟩
    have hb : b = 48 := UInt8.toNat_inj.1 (by have h9 : (b.toNat : Int) = 48 := h15.2; show b.toNat = 48; omega)
    have hr' : strip0 r = strip0 digits := by rw [← hr]; simp [strip0, hb]
    simp at hrl
    refine AW.skip ?_
    refine AW.block ?_
    refine AW.regionO [] ?_
    refine s1 tok [0, 2, 6, 16] ?_
    refine s1 tok [0, 2, 6, 17] ?_
    refine s1 tok [0, 1, 2, 6] ?_
    refine AOpsO.nil ?_
    exact ⟨r, ⟨hr', by omega⟩, by simp, upds_le (by simp), rfl, by simp, by simp⟩
  · intro h15
    try simp at h15
    have hr' : strip0 digits = r := by
      rw [← hr]
      cases r with
      | nil => rfl
      | cons b r =>
        have hb : b ≠ 48 := by rintro rfl; simp [byteAt] at h15
        simp [strip0, hb]
    have hN : NormM neg digits scale = (if (trail r scale).1 = [] then (⟨false, [48], 0⟩, 0) else if 60 < (trail r scale).1.length ∨ 60 < (trail r scale).2 then (⟨false, [], 0⟩, 3) else (⟨neg, (trail r scale).1, (trail r scale).2⟩, 0)) := by simp only [NormM, hr']
    rw [hN]
    clear hN hix h15 hr hr'
    refine AW.exit ?_
    simp
    refine AW.seq ?_
    refine AW.block ?_
    refine AW.loop (α := List UInt8 × Nat) (fun a => trail r scale = trail a.1 a.2 ∧ a.2 ≤ scale ∧ a.1.length ≤ digits.length) (fun a => ⟨upds 55 [(0, .p (.bool neg)), (1, .p (.str a.1)), (2, .p (.int .i64 a.2)), (6, .ptr 6 0)], [], [(6, .vars 26 [.p (.bool false), .p (.str []), .p (.int .i64 0)])], 0⟩) (fun a => a.2) ((r, scale)) ⟨rfl, Nat.le_refl _, hrl⟩ ⟨upds_le (by simp), rfl, by simp, by simp⟩ ?_
    rintro ⟨d, k⟩ ⟨ht, hk, hdl⟩
    simp only at ht hk hdl
    have hix : 0 < d.length → d[d.length - 1]? = some (d.getD (d.length - 1) 0) := fun h => byteAt_get (by omega)
    refine AW.seq ?_
    refine AW.seqRegionO [.int .u8 (byteAt d (d.length - 1))] ?_
    refine s1 tok [0, 1, 2, 6, 18] ?_
    refine s1 tok [0, 1, 2, 6, 19] ?_ (hv := by first | with_reducible exact True.intro | (first | exact fun h1 h2 => ⟨⟨h1, h2⟩, by omega, by omega⟩ | exact fun h1 h2 => ⟨⟨h1, h2⟩, by omega, _, hix h2, rfl⟩ | simp; done) | omega | simp | (simp; omega) | (simp +contextual; omega))
    refine s1 tok [0, 1, 2, 6, 20] ?_
    refine s2 tok [0, 1, 2, 6, 20, 21] 20 rfl rfl ?_
    refine s2 tok [0, 1, 2, 6, 20, 22] 20 rfl rfl ?_ (hv := by first | with_reducible exact True.intro | (first | exact fun h1 h2 => ⟨⟨h1, h2⟩, by omega, by omega⟩ | exact fun h1 h2 => ⟨⟨h1, h2⟩, by omega, _, hix h2, rfl⟩ | simp; done) | omega | simp | (simp; omega) | (simp +contextual; omega))
    refine s2 tok [0, 1, 2, 6, 20, 23] 20 rfl rfl ?_ (hv := by first | with_reducible exact True.intro | (first | exact fun h1 h2 => ⟨⟨h1, h2⟩, by omega, by omega⟩ | exact fun h1 h2 => ⟨⟨h1, h2⟩, by omega, _, hix h2, rfl⟩ | simp; done) | omega | simp | (simp; omega) | (simp +contextual; omega))
    refine s1 tok [0, 1, 2, 6, 24] ?_ (hv := by first | with_reducible exact True.intro | (first | exact fun h1 h2 => ⟨⟨h1, h2⟩, by omega, by omega⟩ | exact fun h1 h2 => ⟨⟨h1, h2⟩, by omega, _, hix h2, rfl⟩ | simp; done) | omega | simp | (simp; omega) | (simp +contextual; omega))
    refine s1 tok [0, 1, 2, 6, 25] ?_
    refine s2 tok [0, 1, 2, 6, 25, 26] 25 rfl rfl ?_
    refine s2 tok [0, 1, 2, 6, 25, 26, 27] 25 rfl rfl ?_
    refine s2 tok [0, 1, 2, 6, 25, 26, 28] 25 rfl rfl ?_ (hv := by first | with_reducible exact True.intro | (first | exact fun h1 h2 => ⟨⟨h1, h2⟩, by omega, by omega⟩ | exact fun h1 h2 => ⟨⟨h1, h2⟩, by omega, _, hix h2, rfl⟩ | simp; done) | omega | simp | (simp; omega) | (simp +contextual; omega))
    refine s2 tok [0, 1, 2, 6, 25, 26, 29] 25 rfl rfl ?_ (hv := by first | with_reducible exact True.intro | (first | exact fun h1 h2 => ⟨⟨h1, h2⟩, by omega, by omega⟩ | exact fun h1 h2 => ⟨⟨h1, h2⟩, by omega, _, hix h2, rfl⟩ | simp; done) | omega | simp | (simp; omega) | (simp +contextual; omega))
    refine s2 tok [0, 1, 2, 6, 25, 30] 25 rfl rfl ?_ (hv := by first | with_reducible exact True.intro | (first | exact fun h1 h2 => ⟨⟨h1, h2⟩, by omega, by omega⟩ | exact fun h1 h2 => ⟨⟨h1, h2⟩, by omega, _, hix h2, rfl⟩ | simp; done) | omega | simp | (simp; omega) | (simp +contextual; omega))
    refine s2 tok [0, 1, 2, 6, 25, 31] 25 rfl rfl ?_ (hv := by first | with_reducible exact True.intro | (first | exact fun h1 h2 => ⟨⟨h1, h2⟩, by omega, by omega⟩ | exact fun h1 h2 => ⟨⟨h1, h2⟩, by omega, _, hix h2, rfl⟩ | simp; done) | omega | simp | (simp; omega) | (simp +contextual; omega))
    refine s1 tok [0, 1, 2, 6, 32] ?_ (hv := by first | with_reducible exact True.intro | (first | exact fun h1 h2 => ⟨⟨h1, h2⟩, by omega, by omega⟩ | exact fun h1 h2 => ⟨⟨h1, h2⟩, by omega, _, hix h2, rfl⟩ | simp; done) | omega | simp | (simp; omega) | (simp +contextual; omega))
    refine AOpsO.nil ?_
    refine AW.cond (c := .tmp 32) (by conv => lhs; simp) trivial ?_ ?_
    · intro h32
      try simp at h32
      obtain ⟨k, rfl⟩ : ∃ k', k = k' + 1 := ⟨k - 1, by omega⟩
      have hl := (byteAt_last h32.1.2).1 h32.2
      have ht' : trail r scale = trail d.dropLast k := by rw [ht]; simp only [trail]; rw [if_pos hl]
      refine AW.skip ?_
      refine AW.block ?_
      refine AW.seqRegionO [] ?_
      refine s1 tok [0, 1, 2, 6, 33] ?_
      refine s1 tok [0, 2, 6, 33, 34] ?_
      refine s1 tok [0, 2, 6, 33, 35] ?_
      refine s1 tok [0, 2, 6, 33, 36] ?_
      refine s1 tok [0, 2, 6, 37] ?_
      refine s1 tok [0, 1, 2, 6] ?_
      refine AOpsO.nil ?_
      refine AW.regionO [] ?_
      refine s1 tok [0, 1, 6, 38] ?_
      refine s1 tok [0, 1, 6, 39] ?_
      refine s1 tok [0, 1, 2, 6] ?_
      refine AOpsO.nil ?_
      exact ⟨(d.dropLast, k), ⟨ht', by simp only []; omega, by simp; omega⟩, by simp, upds_le (by simp [take_last]), rfl, by simp [take_last], by simp [take_last]⟩
    · intro h32
      try simp at h32
      have htl : trail d k = (d, k) := by
        cases k with
        | zero => rfl
        | succ k =>
          simp only [trail]
          rw [if_neg]
          intro hl
          have hpos : 0 < d.length := by cases d with
            | nil => simp at hl
            | cons => simp
          have := (byteAt_last hpos).2 hl
          simp [hpos, this] at h32
      rw [ht, htl]
      refine AW.exit ?_
      simp
      refine AW.seq ?_
      refine AW.seqRegionO [] ?_
      refine s1 tok [0, 1, 2, 6, 40] ?_
      refine s1 tok [0, 1, 2, 6, 41] ?_
      refine AOpsO.nil ?_
      refine AW.cond (c := .tmp 41) (by conv => lhs; simp) trivial ?_ ?_
      · intro h41
        try simp at h41
        subst h41
        refine AW.seqRegionO [] ?_
        refine s1 tok [6, 42] ?_
        refine s1 tok [6] ?_
        refine s1 tok [6, 7] ?_
        refine AOpsO.nil ?_
        exact AW.ret ⟨.inr rfl, _, _, by (conv => lhs; simp), trivial, by simp⟩
      · intro h41
        try simp at h41
        refine AW.skip ?_
        refine AW.seq ?_
        refine AW.seqRegionO [] ?_
        refine s1 tok [0, 1, 2, 6, 43] ?_
        refine s1 tok [0, 1, 2, 6, 44] ?_
        refine s1 tok [0, 1, 2, 6, 45] ?_
        refine s1 tok [0, 1, 2, 6, 46] ?_
        refine s2 tok [0, 1, 2, 6, 46, 47] 46 rfl rfl ?_
        refine s2 tok [0, 1, 2, 6, 46, 48] 46 rfl rfl ?_
        refine s1 tok [0, 1, 2, 6, 49] ?_
        refine AOpsO.nil ?_
        refine AW.cond (c := .tmp 49) (by conv => lhs; simp) trivial ?_ ?_
        · intro h49
          try simp at h49
          have hbig : 60 < d.length ∨ 60 < k := by omega
          refine AW.seqRegionO [] ?_
          refine s1 tok [6, 50] ?_
          refine s1 tok [6] ?_
          refine s1 tok [6, 7] ?_
          refine AOpsO.nil ?_
          exact AW.ret ⟨.inr rfl, _, _, by (conv => lhs; simp), trivial, by simp [h41, hbig]⟩
        · intro h49
          try simp at h49
          have hbig : ¬ (60 < d.length ∨ 60 < k) := by omega
          refine AW.skip ?_
          refine AW.seqRegionO [] ?_
          refine s1 tok [1, 2, 6, 51] ?_
          refine s1 tok [2, 6, 51, 52] ?_
          refine s1 tok [6, 51, 52, 53] ?_
          refine s1 tok [6, 54] ?_
          refine s1 tok [6] ?_
          refine s1 tok [6, 7] ?_
          refine AOpsO.nil ?_
          exact AW.ret ⟨.inr rfl, _, _, by (conv => lhs; simp), trivial, by simp [h41, hbig]⟩
end Go.Proofs.YtdlejiiiifhiiaaGreatDoor
namespace Go.Proofs.YtdlejiiiifhiiaaGreatDoor
open Sy Go
set_option maxRecDepth 100000
set_option maxHeartbeats 4000000
set_option linter.unusedSimpArgs false
set_option linter.unusedVariables false
variable {G : Glob}

def otherM (n : Int) : Bool := decide (n < 48) || decide (57 < n)
theorem other_ev (n : Int) : AFn Tryz.prog G 110 [.int .i32 n] (.bool (otherM n)) := by
  refine AFn.introU tok Tryz.func110 (by kernel_rfl) rfl rfl ?_
  simp only [Tryz.f110, enumA, List.map_cons, List.map_nil]
  refine AW.seqRegionO [] ?_
  refine s1 tok [0] ?_
  refine AOpsO.nil ?_
  refine AW.seqRegionO [] ?_
  refine s1 tok [0, 3] ?_
  refine s1 tok [0, 4] ?_
  refine s1 tok [0, 5] ?_
  refine s2 tok [5, 6] 5 rfl rfl ?_
  refine s2 tok [5, 7] 5 rfl rfl ?_
  refine s1 tok [8] ?_
  refine s1 tok [2] ?_
  refine AOpsO.nil ?_
  exact AW.ret ⟨.inr rfl, _, _, by (conv => lhs; simp), trivial, by simp [otherM]⟩
def isDig (b : UInt8) : Bool := digitM b.toNat
theorem other_dig (b : UInt8) : otherM b.toNat = !isDig b := by
  rw [Bool.eq_iff_iff]; simp [otherM, isDig, digitM]
theorem other_all (s : List UInt8) : decide (0 ≤ indexF otherM s) = !s.all isDig := by
  rw [indexF_bytes (fun n h => by simp [otherM] <;> omega)]
  have : (s.all fun b => !otherM b.toNat) = s.all isDig := by congr 1; funext b; rw [other_dig]; simp
  rw [this]
  cases s.all isDig
  · simp
  · simp
/-- May a decimal be? -/
def dcMay (d : Dc) : Bool := d.digits.all isDig && decide (1 ≤ d.digits.length ∧ d.digits.length ≤ 60 ∧ 0 ≤ d.scale ∧ d.scale ≤ 60) &&
  (if d.digits = [48] then decide (d.scale = 0) && !d.neg else decide (byteAt d.digits 0 ≠ 48) && (decide (d.scale = 0) || decide (byteAt d.digits (d.digits.length - 1) ≠ 48)))
theorem dcMay_no {d : Dc} (h : d.digits.length = 0 ∨ 60 < d.digits.length ∨ d.scale < 0 ∨ 60 < d.scale ∨ d.digits.all isDig = false) : dcMay d = false := by
  unfold dcMay
  rcases h with h | h | h | h | h
  · rw [show decide (1 ≤ d.digits.length ∧ d.digits.length ≤ 60 ∧ 0 ≤ d.scale ∧ d.scale ≤ 60) = false by simp; omega]; simp
  · rw [show decide (1 ≤ d.digits.length ∧ d.digits.length ≤ 60 ∧ 0 ≤ d.scale ∧ d.scale ≤ 60) = false by simp; omega]; simp
  · rw [show decide (1 ≤ d.digits.length ∧ d.digits.length ≤ 60 ∧ 0 ≤ d.scale ∧ d.scale ≤ 60) = false by simp; omega]; simp
  · rw [show decide (1 ≤ d.digits.length ∧ d.digits.length ≤ 60 ∧ 0 ≤ d.scale ∧ d.scale ≤ 60) = false by simp; omega]; simp
  · simp [h]
theorem dcMay_yes {d : Dc} (h : 1 ≤ d.digits.length ∧ d.digits.length ≤ 60 ∧ 0 ≤ d.scale ∧ d.scale ≤ 60) (ha : d.digits.all isDig = true) :
    dcMay d = (if d.digits = [48] then decide (d.scale = 0) && !d.neg else decide (byteAt d.digits 0 ≠ 48) && (decide (d.scale = 0) || decide (byteAt d.digits (d.digits.length - 1) ≠ 48))) := by
  unfold dcMay; rw [ha, show decide (1 ≤ d.digits.length ∧ d.digits.length ≤ 60 ∧ 0 ≤ d.scale ∧ d.scale ≤ 60) = true by simpa using h]; simp
-- no dcMay_ev
-- no refDcMay_ev
end Go.Proofs.YtdlejiiiifhiiaaGreatDoor
namespace Go.Proofs.YtdlejiiiifhiiaaGreatDoor
open Sy Go
set_option maxRecDepth 100000
set_option maxHeartbeats 4000000
set_option linter.unusedSimpArgs false
set_option linter.unusedVariables false
variable {G : Glob}

def negM (s : List UInt8) : Bool := decide (0 < s.length) && decide (byteAt s 0 = 45)
def part2 (s : List UInt8) (k : Nat) (digits : List UInt8) : Option (Nat × List UInt8 × Nat) :=
  if k < s.length ∧ byteAt s k = 46 then (if runM s (k + 1) = 0 then none else some (k + 1 + runM s (k + 1), digits ++ (s.take (k + 1 + runM s (k + 1))).drop (k + 1), runM s (k + 1))) else some (k, digits, 0)
def upM (s : List UInt8) (k : Nat) : Nat → Int
  | 0 => 0
  | i + 1 => 10 * upM s k i + (byteAt s (k + i) - 48)
def signM (s : List UInt8) (k : Nat) : Nat := if k < s.length ∧ (byteAt s k = 45 ∨ byteAt s k = 43) then k + 1 else k
def part3 (s : List UInt8) (k : Nat) : Option (Nat × Int) :=
  if k < s.length ∧ (byteAt s k = 101 ∨ byteAt s k = 69) then
    (if runM s (signM s (k + 1)) < 1 ∨ 2 < runM s (signM s (k + 1)) then none
     else some (signM s (k + 1) + runM s (signM s (k + 1)), if k + 1 < s.length ∧ byteAt s (k + 1) = 45 then - upM s (signM s (k + 1)) (runM s (signM s (k + 1))) else upM s (signM s (k + 1)) (runM s (signM s (k + 1)))))
  else some (k, 0)
def badDc : Dc × Int := (⟨false, [], 0⟩, 4)
def lastM (neg : Bool) (digits : List UInt8) (sc : Int) : Dc × Int := if sc < 0 then NormM neg (digits ++ zerosM (-sc).toNat) 0 else NormM neg digits sc.toNat
def restM (s : List UInt8) (neg : Bool) (digits : List UInt8) (scale : Nat) : Option (Nat × Int) → Dc × Int
  | none => badDc
  | some (k, up) => if k = s.length then lastM neg digits (scale - up) else badDc
def tailM (s : List UInt8) (neg : Bool) : Option (Nat × List UInt8 × Nat) → Dc × Int
  | none => badDc
  | some (k, digits, scale) => restM s neg digits scale (part3 s k)
def a0M (s : List UInt8) : Nat := if negM s = true then 1 else 0
def ParseM (s : List UInt8) : Dc × Int :=
  if runM s (a0M s) = 0 ∨ (1 < runM s (a0M s) ∧ byteAt s (a0M s) = 48) then badDc
  else tailM s (negM s) (part2 s (a0M s + runM s (a0M s)) ((s.take (a0M s + runM s (a0M s))).drop (a0M s)))
theorem runM_in (s : List UInt8) (k : Nat) (h : k ≤ s.length) : k + runM s k ≤ s.length := by
  unfold runM
  have := (List.takeWhile_sublist (l := s.drop k) fun b : UInt8 => digitM b.toNat).length_le
  simp at this; omega
theorem runM_pos {s : List UInt8} {k : Nat} (h : 0 < runM s k) : k < s.length := ((runM_lt (Nat.zero_le _)).1 h).1
theorem runM_digit {s : List UInt8} {k i : Nat} (h : i < runM s k) : k + i < s.length ∧ 48 ≤ byteAt s (k + i) ∧ byteAt s (k + i) ≤ 57 := by
  have := (runM_lt (Nat.le_of_lt h)).1 h
  simpa [digitM] using this
theorem upM_range {s : List UInt8} {k : Nat} : ∀ {i : Nat}, i ≤ 2 → i ≤ runM s k → 0 ≤ upM s k i ∧ upM s k i ≤ 99 ∧ (i ≤ 1 → upM s k i ≤ 9)
  | 0, _, _ => by simp [upM]
  | 1, _, h => by have := runM_digit (s := s) (k := k) (i := 0) (by omega); simp [upM] at this ⊢; omega
  | 2, _, h => by
    have h1 := runM_digit (s := s) (k := k) (i := 0) (by omega)
    have h2 := runM_digit (s := s) (k := k) (i := 1) (by omega)
    simp [upM] at h1 h2 ⊢; omega
theorem a0M_le (s : List UInt8) : a0M s ≤ 1 := by unfold a0M; split <;> omega
theorem Parse_ev (s : List UInt8) (hs : s.length ≤ 100000) : AFn Tryz.prog G 17 [.str s] (.tup [(ParseM s).1.enc, .int .i64 (ParseM s).2]) := by
  refine AFn.introU tok Tryz.func17 (by kernel_rfl) rfl rfl ?_
  simp only [Tryz.f17, enumA, List.map_cons, List.map_nil]
  have hrun := fun k hk => run_ev (G := G) s k (by omega) hk
  have hix : ∀ k : Nat, k < s.length → s[k]? = some (s.getD k 0) := fun k h => byteAt_get h
  refine AW.seqRegionO [] ?_
  refine s1 tok [0, 2] ?_
  refine s1 tok [0, 2] ?_
  refine AOpsO.nil ?_
  refine AW.seqRegionO [] ?_
  refine s1 tok [0, 2, 4] ?_
  refine AOpsO.nil ?_
  refine AW.seqRegionO [.int .u8 (byteAt s 0)] ?_
  refine s1 tok [0, 2, 4, 12] ?_
  refine s1 tok [0, 2, 4, 13] ?_ (hv := by first | with_reducible exact True.intro | (first | exact fun h => ⟨h, by omega, _, hix 0 (by omega), rfl⟩ | exact fun h => ⟨h, _, hix 0 (by omega), rfl⟩ | simp; done) | omega | simp | (simp; omega) | (simp +contextual; omega))
  refine s1 tok [0, 2, 4, 14] ?_ (hv := by first | with_reducible exact True.intro | (first | exact fun h => ⟨h, by omega, _, hix 0 (by omega), rfl⟩ | exact fun h => ⟨h, _, hix 0 (by omega), rfl⟩ | simp; done) | omega | simp | (simp; omega) | (simp +contextual; omega))
  refine s1 tok [0, 2, 4, 15] ?_
  refine s2 tok [0, 2, 4, 15, 16] 15 rfl rfl ?_
  refine s2 tok [0, 2, 4, 15, 17] 15 rfl rfl ?_ (hv := by first | with_reducible exact True.intro | (first | exact fun h => ⟨h, by omega, _, hix 0 (by omega), rfl⟩ | exact fun h => ⟨h, _, hix 0 (by omega), rfl⟩ | simp; done) | omega | simp | (simp; omega) | (simp +contextual; omega))
  refine s2 tok [0, 2, 4, 15, 18] 15 rfl rfl ?_ (hv := by first | with_reducible exact True.intro | (first | exact fun h => ⟨h, by omega, _, hix 0 (by omega), rfl⟩ | exact fun h => ⟨h, _, hix 0 (by omega), rfl⟩ | simp; done) | omega | simp | (simp; omega) | (simp +contextual; omega))
  refine s1 tok [0, 2, 4, 19] ?_ (hv := by first | with_reducible exact True.intro | (first | exact fun h => ⟨h, by omega, _, hix 0 (by omega), rfl⟩ | exact fun h => ⟨h, _, hix 0 (by omega), rfl⟩ | simp; done) | omega | simp | (simp; omega) | (simp +contextual; omega))
  refine s1 tok [0, 2, 4, 5] ?_
  refine AOpsO.nil ?_
  refine AW.join (α := Unit) (fun _ => True) (fun a => ⟨upds 175 [(0, .p (.str s)), (2, .ptr 2 0), (4, .p (.int .i64 (a0M s))), (5, .p (.bool (negM s)))], [], [(2, .vars 26 [.p (.bool false), .p (.str []), .p (.int .i64 0)])], 0⟩) ?_ ?_
  ·
    refine AW.seqRegionO [] ?_
    refine s1 tok [0, 2, 4, 5, 20] ?_
    refine AOpsO.nil ?_
    refine AW.cond (c := .tmp 20) (by conv => lhs; simp) trivial ?_ ?_
    · intro h20
      try simp at h20
      refine AW.regionO [] ?_
      refine s1 tok [0, 2, 4, 5] ?_
      refine AOpsO.nil ?_
      exact ⟨(), trivial, upds_le (by simp [a0M, negM, h20]), rfl, by simp [a0M, negM, h20], by simp [a0M, negM, h20]⟩
    · intro h20
      try simp at h20
      have hneg : negM s = false := by
        rw [← Bool.not_eq_true]; intro h; simp only [negM, Bool.and_eq_true, decide_eq_true_eq] at h; exact h20 h.1 h.2
      have hneg0 := hneg
      have ha00 : a0M s = 0 := by simp [a0M, hneg]
      simp only [negM] at hneg0
      refine AW.skip ?_
      exact ⟨(), trivial, upds_le (by simp [ha00, hneg0, hneg]), rfl, by simp [ha00, hneg0, hneg], by simp [ha00, hneg0, hneg]⟩
  ·
    rintro a hI
    have ha0 := a0M_le s
    have hn0 := runM_le s (a0M s)
    have hp0 := runM_pos (s := s) (k := a0M s)
    have hin0 := runM_in s (a0M s)
    refine AW.seqRegionO [.nilp, .int .i64 (runM s (a0M s))] ?_
    refine s1 tok [0, 2, 4, 5, 21] ?_
    refine s1 tok [0, 2, 4, 5, 21, 22] ?_
    refine s1 tok [0, 2, 4, 5, 23] ?_ (hv := by first | with_reducible exact True.intro | (simp [hrun (a0M s) (by have := a0M_le s; omega)]; done) | omega | simp | (simp; omega) | (simp +contextual; omega))
    refine s1 tok [0, 2, 4, 5, 6] ?_
    refine AOpsO.nil ?_
    refine AW.seq ?_
    refine AW.seqRegionO [.int .u8 (byteAt s (a0M s))] ?_
    refine s1 tok [0, 2, 4, 5, 6, 24] ?_
    refine s1 tok [0, 2, 4, 5, 6, 25] ?_ (hv := by first | with_reducible exact True.intro | (first | exact fun h1 h2 => ⟨⟨h1, h2⟩, _, hix (a0M s) (hp0 (by omega)), rfl⟩ | exact fun h1 => ⟨h1, fun h2 => ⟨h1, h2⟩⟩ | simp; done) | omega | simp | (simp; omega) | (simp +contextual; omega))
    refine s1 tok [0, 2, 4, 5, 6, 26] ?_
    refine s2 tok [0, 2, 4, 5, 6, 26, 27] 26 rfl rfl ?_
    refine s2 tok [0, 2, 4, 5, 6, 26, 28] 26 rfl rfl ?_ (hv := by first | with_reducible exact True.intro | (first | exact fun h1 h2 => ⟨⟨h1, h2⟩, _, hix (a0M s) (hp0 (by omega)), rfl⟩ | exact fun h1 => ⟨h1, fun h2 => ⟨h1, h2⟩⟩ | simp; done) | omega | simp | (simp; omega) | (simp +contextual; omega))
    refine s2 tok [0, 2, 4, 5, 6, 26, 29] 26 rfl rfl ?_
    refine s2 tok [0, 2, 4, 5, 6, 26, 29, 30] 29 rfl rfl ?_
    refine s2 tok [0, 2, 4, 5, 6, 26, 29, 30, 31] 29 rfl rfl ?_
    refine s2 tok [0, 2, 4, 5, 6, 26, 29, 32] 29 rfl rfl ?_ (hv := by first | with_reducible exact True.intro | (first | exact fun h1 h2 => ⟨⟨h1, h2⟩, _, hix (a0M s) (hp0 (by omega)), rfl⟩ | exact fun h1 => ⟨h1, fun h2 => ⟨h1, h2⟩⟩ | simp; done) | omega | simp | (simp; omega) | (simp +contextual; omega))
    refine s2 tok [0, 2, 4, 5, 6, 26, 29, 33] 29 rfl rfl ?_ (hv := by first | with_reducible exact True.intro | (first | exact fun h1 h2 => ⟨⟨h1, h2⟩, _, hix (a0M s) (hp0 (by omega)), rfl⟩ | exact fun h1 => ⟨h1, fun h2 => ⟨h1, h2⟩⟩ | simp; done) | omega | simp | (simp; omega) | (simp +contextual; omega))
    refine s2 tok [0, 2, 4, 5, 6, 26, 34] 26 rfl rfl ?_ (hv := by first | with_reducible exact True.intro | (first | exact fun h1 h2 => ⟨⟨h1, h2⟩, _, hix (a0M s) (hp0 (by omega)), rfl⟩ | exact fun h1 => ⟨h1, fun h2 => ⟨h1, h2⟩⟩ | simp; done) | omega | simp | (simp; omega) | (simp +contextual; omega))
    refine s1 tok [0, 2, 4, 5, 6, 35] ?_ (hv := by first | with_reducible exact True.intro | (first | exact fun h1 h2 => ⟨⟨h1, h2⟩, _, hix (a0M s) (hp0 (by omega)), rfl⟩ | exact fun h1 => ⟨h1, fun h2 => ⟨h1, h2⟩⟩ | simp; done) | omega | simp | (simp; omega) | (simp +contextual; omega))
    refine AOpsO.nil ?_
    refine AW.cond (c := .tmp 35) (by conv => lhs; simp) trivial ?_ ?_
    · intro h35
      try simp at h35
      have hP : ParseM s = badDc := by unfold ParseM; rw [if_pos (by omega)]
      refine AW.seqRegionO [] ?_
      refine s1 tok [2, 36] ?_
      refine s1 tok [2] ?_
      refine s1 tok [2, 3] ?_
      refine AOpsO.nil ?_
      exact AW.ret ⟨.inr rfl, _, _, by (conv => lhs; simp), trivial, by simp [hP, badDc]⟩
    · intro h35
      try simp at h35
      have hP : ParseM s = tailM s (negM s) (part2 s (a0M s + runM s (a0M s)) ((s.take (a0M s + runM s (a0M s))).drop (a0M s))) := by unfold ParseM; rw [if_neg (by omega)]
      rw [hP]
      have hin := hin0 (by have := hp0 (by omega); omega)
      generalize hdg : (s.take (a0M s + runM s (a0M s))).drop (a0M s) = dg0
      have hdgl : dg0.length ≤ s.length := by rw [← hdg]; simp; omega
      obtain ⟨k1, hk1⟩ : ∃ k1, k1 = a0M s + runM s (a0M s) := ⟨_, rfl⟩
      rw [← hk1] at hin hdg ⊢
      refine AW.skip ?_
      refine AW.seqRegionO [] ?_
      refine s1 tok [0, 2, 4, 5, 6, 37] ?_
      refine s1 tok [0, 2, 4, 5, 6, 37, 38] ?_
      refine s1 tok [0, 2, 4, 5, 6, 37, 38, 39] ?_
      refine s1 tok [0, 2, 4, 5, 6, 37, 38, 39, 40] ?_
      refine s1 tok [0, 2, 4, 5, 6, 37, 38, 41] ?_ (hv := by first | with_reducible exact True.intro | (omega; done) | omega | simp | (simp; omega) | (simp +contextual; omega))
      refine s1 tok [0, 2, 4, 5, 6, 42] ?_ (hv := by first | with_reducible exact True.intro | (omega; done) | omega | simp | (simp; omega) | (simp +contextual; omega))
      refine s1 tok [0, 2, 4, 5, 6, 7] ?_
      refine AOpsO.nil ?_
      refine AW.seqRegionO [] ?_
      refine s1 tok [0, 2, 5, 6, 7, 43] ?_
      refine s1 tok [0, 2, 5, 7, 43, 44] ?_
      refine s1 tok [0, 2, 5, 7, 45] ?_
      refine s1 tok [0, 2, 4, 5, 7] ?_
      refine AOpsO.nil ?_
      rw [show ((a0M s : Int) + (runM s (a0M s) : Nat)) = (k1 : Nat) by omega]
      refine AW.seqRegionO [] ?_
      refine s1 tok [0, 2, 4, 5, 7, 8] ?_
      refine AOpsO.nil ?_
      refine AW.join (α := Nat × List UInt8 × Nat) (fun a => part2 s k1 dg0 = some a ∧ a.1 ≤ s.length ∧ a.2.1.length ≤ 200000 ∧ a.2.2 ≤ s.length) (fun a => ⟨upds 175 [(0, .p (.str s)), (2, .ptr 2 0), (4, .p (.int .i64 a.1)), (5, .p (.bool (negM s))), (7, .p (.str a.2.1)), (8, .p (.int .i64 a.2.2))], [], [(2, .vars 26 [.p (.bool false), .p (.str []), .p (.int .i64 0)])], 0⟩) ?_ ?_
      ·
        have hr1 := runM_in s (k1 + 1)
        refine AW.seqRegionO [.int .u8 (byteAt s k1)] ?_
        refine s1 tok [0, 2, 4, 5, 7, 8, 46] ?_
        refine s1 tok [0, 2, 4, 5, 7, 8, 46, 47] ?_
        refine s1 tok [0, 2, 4, 5, 7, 8, 46, 48] ?_ (hv := by first | with_reducible exact True.intro | (first | exact fun h => ⟨h, _, hix k1 (by omega), rfl⟩ | simp; done) | omega | simp | (simp; omega) | (simp +contextual; omega))
        refine s1 tok [0, 2, 4, 5, 7, 8, 49] ?_ (hv := by first | with_reducible exact True.intro | (first | exact fun h => ⟨h, _, hix k1 (by omega), rfl⟩ | simp; done) | omega | simp | (simp; omega) | (simp +contextual; omega))
        refine s1 tok [0, 2, 4, 5, 7, 8, 50] ?_
        refine s2 tok [0, 2, 4, 5, 7, 8, 50, 51] 50 rfl rfl ?_
        refine s2 tok [0, 2, 4, 5, 7, 8, 50, 51, 52] 50 rfl rfl ?_
        refine s2 tok [0, 2, 4, 5, 7, 8, 50, 53] 50 rfl rfl ?_ (hv := by first | with_reducible exact True.intro | (first | exact fun h => ⟨h, _, hix k1 (by omega), rfl⟩ | simp; done) | omega | simp | (simp; omega) | (simp +contextual; omega))
        refine s2 tok [0, 2, 4, 5, 7, 8, 50, 54] 50 rfl rfl ?_ (hv := by first | with_reducible exact True.intro | (first | exact fun h => ⟨h, _, hix k1 (by omega), rfl⟩ | simp; done) | omega | simp | (simp; omega) | (simp +contextual; omega))
        refine s1 tok [0, 2, 4, 5, 7, 8, 55] ?_ (hv := by first | with_reducible exact True.intro | (first | exact fun h => ⟨h, _, hix k1 (by omega), rfl⟩ | simp; done) | omega | simp | (simp; omega) | (simp +contextual; omega))
        refine AOpsO.nil ?_
        refine AW.cond (c := .tmp 55) (by conv => lhs; simp) trivial ?_ ?_
        · intro h55
          try simp at h55
          refine AW.seqRegionO [.nilp, .int .i64 (runM s (k1 + 1))] ?_
          refine s1 tok [0, 2, 4, 5, 7, 56] ?_
          refine s1 tok [0, 2, 4, 5, 7, 56, 57] ?_
          refine s1 tok [0, 2, 4, 5, 7, 56, 58] ?_ (hv := by first | with_reducible exact True.intro | (first | omega | exact hrun (k1 + 1) (by omega); done) | omega | simp | (simp; omega) | (simp +contextual; omega))
          refine s1 tok [0, 2, 4, 5, 7, 59] ?_ (hv := by first | with_reducible exact True.intro | (first | omega | exact hrun (k1 + 1) (by omega); done) | omega | simp | (simp; omega) | (simp +contextual; omega))
          refine s1 tok [0, 2, 4, 5, 7, 8] ?_
          refine AOpsO.nil ?_
          refine AW.seq ?_
          refine AW.seqRegionO [] ?_
          refine s1 tok [0, 2, 4, 5, 7, 8, 60] ?_
          refine s1 tok [0, 2, 4, 5, 7, 8, 61] ?_
          refine AOpsO.nil ?_
          refine AW.cond (c := .tmp 61) (by conv => lhs; simp) trivial ?_ ?_
          · intro h61
            try simp at h61
            have hP2 : part2 s k1 dg0 = none := by simp [part2, h55.1, h55.2, h61]
            refine AW.seqRegionO [] ?_
            refine s1 tok [2, 62] ?_
            refine s1 tok [2] ?_
            refine s1 tok [2, 3] ?_
            refine AOpsO.nil ?_
            exact AW.ret ⟨.inr rfl, _, _, by (conv => lhs; simp), trivial, by simp [hP2, tailM, badDc]⟩
          · intro h61
            try simp at h61
            refine AW.skip ?_
            refine AW.seqRegionO [] ?_
            refine s1 tok [0, 2, 4, 5, 8, 63] ?_
            refine s1 tok [0, 2, 4, 5, 8, 63, 64] ?_
            refine s1 tok [0, 2, 4, 5, 8, 63, 64, 65] ?_
            refine s1 tok [0, 2, 4, 5, 8, 63, 64, 66] ?_
            refine s1 tok [0, 2, 4, 5, 8, 63, 64, 66, 67] ?_
            refine s1 tok [0, 2, 4, 5, 8, 63, 64, 66, 68] ?_
            refine s1 tok [0, 2, 4, 5, 8, 63, 64, 66, 68, 69] ?_
            refine s1 tok [0, 2, 4, 5, 8, 63, 64, 66, 70] ?_
            refine s1 tok [0, 2, 4, 5, 8, 63, 71] ?_
            refine s1 tok [0, 2, 4, 5, 8, 72] ?_
            refine s1 tok [0, 2, 4, 5, 7, 8] ?_
            refine AOpsO.nil ?_
            refine AW.regionO [] ?_
            refine s1 tok [0, 2, 5, 7, 8, 73] ?_
            refine s1 tok [0, 2, 5, 7, 8, 74] ?_
            refine s1 tok [0, 2, 5, 7, 8, 74, 75] ?_
            refine s1 tok [0, 2, 5, 7, 8, 76] ?_
            refine s1 tok [0, 2, 4, 5, 7, 8] ?_
            refine AOpsO.nil ?_
            exact ⟨(k1 + 1 + runM s (k1 + 1), dg0 ++ (s.take (k1 + 1 + runM s (k1 + 1))).drop (k1 + 1), runM s (k1 + 1)), ⟨by simp [part2, h55.1, h55.2, h61], hr1 (by omega), by simp; omega, by have := hr1 (by omega); show runM s (k1 + 1) ≤ s.length; omega⟩, upds_le (by simp [hdg, show ((k1 : Int) + 1 + (runM s (k1 + 1) : Nat)).toNat = k1 + 1 + runM s (k1 + 1) from by omega]), rfl, by simp [hdg, show ((k1 : Int) + 1 + (runM s (k1 + 1) : Nat)).toNat = k1 + 1 + runM s (k1 + 1) from by omega], by simp [hdg, show ((k1 : Int) + 1 + (runM s (k1 + 1) : Nat)).toNat = k1 + 1 + runM s (k1 + 1) from by omega]⟩
        · intro h55
          try simp at h55
          refine AW.skip ?_
          exact ⟨(k1, dg0, 0), ⟨by simp only [part2]; rw [if_neg (by intro h; exact h55 h.1 h.2)], hin, by show dg0.length ≤ 200000; omega, by simp⟩, upds_le (by simp [hdg]), rfl, by simp [hdg], by simp [hdg]⟩
      ·
        rintro ⟨k, digits, scale⟩ ⟨hp2, hk, hdl, hsc⟩
        simp only at hk hdl hsc
        have hT : tailM s (negM s) (part2 s k1 dg0) = restM s (negM s) digits scale (part3 s k) := by rw [hp2]; rfl
        rw [hT]
        have hix1 : (k : Int) + 1 < s.length → s[((k : Int) + 1).toNat]? = some (s.getD (k + 1) 0) := fun h => by rw [show ((k : Int) + 1).toNat = k + 1 by omega]; exact hix (k + 1) (by omega)
        refine AW.seqRegionO [] ?_
        refine s1 tok [0, 2, 4, 5, 7, 8, 9] ?_
        refine AOpsO.nil ?_
        refine AW.join (α := Nat × Int) (fun b => part3 s k = some b ∧ b.1 ≤ 300000 ∧ -99 ≤ b.2 ∧ b.2 ≤ 99) (fun b => ⟨upds 175 [(0, .p (.str s)), (2, .ptr 2 0), (4, .p (.int .i64 b.1)), (5, .p (.bool (negM s))), (7, .p (.str digits)), (8, .p (.int .i64 scale)), (9, .p (.int .i64 b.2))], [], [(2, .vars 26 [.p (.bool false), .p (.str []), .p (.int .i64 0)])], 0⟩) ?_ ?_
        ·
          refine AW.seqRegionO [.int .u8 (byteAt s k), .int .u8 (byteAt s k)] ?_
          refine s1 tok [0, 2, 4, 5, 7, 8, 9, 77] ?_
          refine s1 tok [0, 2, 4, 5, 7, 8, 9, 77, 78] ?_
          refine s1 tok [0, 2, 4, 5, 7, 8, 9, 77, 79] ?_ (hv := by first | with_reducible exact True.intro | (((repeat' (first | with_reducible apply And.intro | intro _)) <;> first | omega | assumption | contradiction | exact ⟨_, hix _ (by omega), rfl⟩ | simp_all); done) | omega | simp | (simp; omega) | (simp +contextual; omega))
          refine s1 tok [0, 2, 4, 5, 7, 8, 9, 80] ?_ (hv := by first | with_reducible exact True.intro | (((repeat' (first | with_reducible apply And.intro | intro _)) <;> first | omega | assumption | contradiction | exact ⟨_, hix _ (by omega), rfl⟩ | simp_all); done) | omega | simp | (simp; omega) | (simp +contextual; omega))
          refine s1 tok [0, 2, 4, 5, 7, 8, 9, 81] ?_
          refine s2 tok [0, 2, 4, 5, 7, 8, 9, 81, 82] 81 rfl rfl ?_
          refine s2 tok [0, 2, 4, 5, 7, 8, 9, 81, 82, 83] 81 rfl rfl ?_
          refine s2 tok [0, 2, 4, 5, 7, 8, 9, 81, 84] 81 rfl rfl ?_ (hv := by first | with_reducible exact True.intro | (((repeat' (first | with_reducible apply And.intro | intro _)) <;> first | omega | assumption | contradiction | exact ⟨_, hix _ (by omega), rfl⟩ | simp_all); done) | omega | simp | (simp; omega) | (simp +contextual; omega))
          refine s2 tok [0, 2, 4, 5, 7, 8, 9, 81, 85] 81 rfl rfl ?_ (hv := by first | with_reducible exact True.intro | (((repeat' (first | with_reducible apply And.intro | intro _)) <;> first | omega | assumption | contradiction | exact ⟨_, hix _ (by omega), rfl⟩ | simp_all); done) | omega | simp | (simp; omega) | (simp +contextual; omega))
          refine s2 tok [0, 2, 4, 5, 7, 8, 9, 81, 86] 81 rfl rfl ?_
          refine s2 tok [0, 2, 4, 5, 7, 8, 9, 81, 86, 87] 86 rfl rfl ?_
          refine s2 tok [0, 2, 4, 5, 7, 8, 9, 81, 86, 87, 88] 86 rfl rfl ?_
          refine s2 tok [0, 2, 4, 5, 7, 8, 9, 81, 86, 89] 86 rfl rfl ?_ (hv := by first | with_reducible exact True.intro | (((repeat' (first | with_reducible apply And.intro | intro _)) <;> first | omega | assumption | contradiction | exact ⟨_, hix _ (by omega), rfl⟩ | simp_all); done) | omega | simp | (simp; omega) | (simp +contextual; omega))
          refine s2 tok [0, 2, 4, 5, 7, 8, 9, 81, 86, 90] 86 rfl rfl ?_ (hv := by first | with_reducible exact True.intro | (((repeat' (first | with_reducible apply And.intro | intro _)) <;> first | omega | assumption | contradiction | exact ⟨_, hix _ (by omega), rfl⟩ | simp_all); done) | omega | simp | (simp; omega) | (simp +contextual; omega))
          refine s2 tok [0, 2, 4, 5, 7, 8, 9, 81, 91] 81 rfl rfl ?_ (hv := by first | with_reducible exact True.intro | (((repeat' (first | with_reducible apply And.intro | intro _)) <;> first | omega | assumption | contradiction | exact ⟨_, hix _ (by omega), rfl⟩ | simp_all); done) | omega | simp | (simp; omega) | (simp +contextual; omega))
          refine s1 tok [0, 2, 4, 5, 7, 8, 9, 92] ?_ (hv := by first | with_reducible exact True.intro | (((repeat' (first | with_reducible apply And.intro | intro _)) <;> first | omega | assumption | contradiction | exact ⟨_, hix _ (by omega), rfl⟩ | simp_all); done) | omega | simp | (simp; omega) | (simp +contextual; omega))
          refine AOpsO.nil ?_
          refine AW.cond (c := .tmp 92) (by conv => lhs; simp) trivial ?_ ?_
          · intro h92
            try simp at h92
            refine AW.seqRegionO [] ?_
            refine s1 tok [0, 2, 5, 7, 8, 9, 93] ?_
            refine s1 tok [0, 2, 5, 7, 8, 9, 94] ?_
            refine s1 tok [0, 2, 4, 5, 7, 8, 9] ?_
            refine AOpsO.nil ?_
            refine AW.seqRegionO [.int .u8 (byteAt s (k + 1))] ?_
            refine s1 tok [0, 2, 4, 5, 7, 8, 9, 95] ?_
            refine s1 tok [0, 2, 4, 5, 7, 8, 9, 95, 96] ?_
            refine s1 tok [0, 2, 4, 5, 7, 8, 9, 95, 97] ?_ (hv := by first | with_reducible exact True.intro | (((repeat' (first | with_reducible apply And.intro | intro _)) <;> first | omega | assumption | contradiction | exact ⟨_, hix _ (by omega), rfl⟩ | simp_all); done) | omega | simp | (simp; omega) | (simp +contextual; omega))
            refine s1 tok [0, 2, 4, 5, 7, 8, 9, 98] ?_ (hv := by first | with_reducible exact True.intro | (((repeat' (first | with_reducible apply And.intro | intro _)) <;> first | omega | assumption | contradiction | exact ⟨_, hix _ (by omega), rfl⟩ | simp_all); done) | omega | simp | (simp; omega) | (simp +contextual; omega))
            refine s1 tok [0, 2, 4, 5, 7, 8, 9, 99] ?_
            refine s2 tok [0, 2, 4, 5, 7, 8, 9, 99, 100] 99 rfl rfl ?_
            refine s2 tok [0, 2, 4, 5, 7, 8, 9, 99, 100, 101] 99 rfl rfl ?_
            refine s2 tok [0, 2, 4, 5, 7, 8, 9, 99, 102] 99 rfl rfl ?_ (hv := by first | with_reducible exact True.intro | (((repeat' (first | with_reducible apply And.intro | intro _)) <;> first | omega | assumption | contradiction | exact ⟨_, hix _ (by omega), rfl⟩ | simp_all); done) | omega | simp | (simp; omega) | (simp +contextual; omega))
            refine s2 tok [0, 2, 4, 5, 7, 8, 9, 99, 103] 99 rfl rfl ?_ (hv := by first | with_reducible exact True.intro | (((repeat' (first | with_reducible apply And.intro | intro _)) <;> first | omega | assumption | contradiction | exact ⟨_, hix _ (by omega), rfl⟩ | simp_all); done) | omega | simp | (simp; omega) | (simp +contextual; omega))
            refine s1 tok [0, 2, 4, 5, 7, 8, 9, 104] ?_ (hv := by first | with_reducible exact True.intro | (((repeat' (first | with_reducible apply And.intro | intro _)) <;> first | omega | assumption | contradiction | exact ⟨_, hix _ (by omega), rfl⟩ | simp_all); done) | omega | simp | (simp; omega) | (simp +contextual; omega))
            refine s1 tok [0, 2, 4, 5, 7, 8, 9, 10] ?_
            refine AOpsO.nil ?_
            refine AW.join (α := Unit) (fun _ => True) (fun a => ⟨upds 175 [(0, .p (.str s)), (2, .ptr 2 0), (4, .p (.int .i64 (signM s (k + 1)))), (5, .p (.bool (negM s))), (7, .p (.str digits)), (8, .p (.int .i64 scale)), (9, .p (.int .i64 0)), (10, .p (.bool (decide (k + 1 < s.length) && decide (byteAt s (k + 1) = 45))))], [], [(2, .vars 26 [.p (.bool false), .p (.str []), .p (.int .i64 0)])], 0⟩) ?_ ?_
            ·
              refine AW.seqRegionO [.int .u8 (byteAt s (k + 1)), .int .u8 (byteAt s (k + 1))] ?_
              refine s1 tok [0, 2, 4, 5, 7, 8, 9, 10, 105] ?_
              refine s1 tok [0, 2, 4, 5, 7, 8, 9, 10, 105, 106] ?_
              refine s1 tok [0, 2, 4, 5, 7, 8, 9, 10, 105, 107] ?_ (hv := by first | with_reducible exact True.intro | (((repeat' (first | with_reducible apply And.intro | intro _)) <;> first | omega | assumption | contradiction | exact ⟨_, hix _ (by omega), rfl⟩ | simp_all); done) | omega | simp | (simp; omega) | (simp +contextual; omega))
              refine s1 tok [0, 2, 4, 5, 7, 8, 9, 10, 108] ?_ (hv := by first | with_reducible exact True.intro | (((repeat' (first | with_reducible apply And.intro | intro _)) <;> first | omega | assumption | contradiction | exact ⟨_, hix _ (by omega), rfl⟩ | simp_all); done) | omega | simp | (simp; omega) | (simp +contextual; omega))
              refine s1 tok [0, 2, 4, 5, 7, 8, 9, 10, 109] ?_
              refine s2 tok [0, 2, 4, 5, 7, 8, 9, 10, 109, 110] 109 rfl rfl ?_
              refine s2 tok [0, 2, 4, 5, 7, 8, 9, 10, 109, 110, 111] 109 rfl rfl ?_
              refine s2 tok [0, 2, 4, 5, 7, 8, 9, 10, 109, 112] 109 rfl rfl ?_ (hv := by first | with_reducible exact True.intro | (((repeat' (first | with_reducible apply And.intro | intro _)) <;> first | omega | assumption | contradiction | exact ⟨_, hix _ (by omega), rfl⟩ | simp_all); done) | omega | simp | (simp; omega) | (simp +contextual; omega))
              refine s2 tok [0, 2, 4, 5, 7, 8, 9, 10, 109, 113] 109 rfl rfl ?_ (hv := by first | with_reducible exact True.intro | (((repeat' (first | with_reducible apply And.intro | intro _)) <;> first | omega | assumption | contradiction | exact ⟨_, hix _ (by omega), rfl⟩ | simp_all); done) | omega | simp | (simp; omega) | (simp +contextual; omega))
              refine s2 tok [0, 2, 4, 5, 7, 8, 9, 10, 109, 114] 109 rfl rfl ?_
              refine s2 tok [0, 2, 4, 5, 7, 8, 9, 10, 109, 114, 115] 114 rfl rfl ?_
              refine s2 tok [0, 2, 4, 5, 7, 8, 9, 10, 109, 114, 115, 116] 114 rfl rfl ?_
              refine s2 tok [0, 2, 4, 5, 7, 8, 9, 10, 109, 114, 117] 114 rfl rfl ?_ (hv := by first | with_reducible exact True.intro | (((repeat' (first | with_reducible apply And.intro | intro _)) <;> first | omega | assumption | contradiction | exact ⟨_, hix _ (by omega), rfl⟩ | simp_all); done) | omega | simp | (simp; omega) | (simp +contextual; omega))
              refine s2 tok [0, 2, 4, 5, 7, 8, 9, 10, 109, 114, 118] 114 rfl rfl ?_ (hv := by first | with_reducible exact True.intro | (((repeat' (first | with_reducible apply And.intro | intro _)) <;> first | omega | assumption | contradiction | exact ⟨_, hix _ (by omega), rfl⟩ | simp_all); done) | omega | simp | (simp; omega) | (simp +contextual; omega))
              refine s2 tok [0, 2, 4, 5, 7, 8, 9, 10, 109, 119] 109 rfl rfl ?_ (hv := by first | with_reducible exact True.intro | (((repeat' (first | with_reducible apply And.intro | intro _)) <;> first | omega | assumption | contradiction | exact ⟨_, hix _ (by omega), rfl⟩ | simp_all); done) | omega | simp | (simp; omega) | (simp +contextual; omega))
              refine s1 tok [0, 2, 4, 5, 7, 8, 9, 10, 120] ?_ (hv := by first | with_reducible exact True.intro | (((repeat' (first | with_reducible apply And.intro | intro _)) <;> first | omega | assumption | contradiction | exact ⟨_, hix _ (by omega), rfl⟩ | simp_all); done) | omega | simp | (simp; omega) | (simp +contextual; omega))
              refine AOpsO.nil ?_
              refine AW.cond (c := .tmp 120) (by conv => lhs; simp) trivial ?_ ?_
              · intro h120
                try simp at h120
                refine AW.regionO [] ?_
                refine s1 tok [0, 2, 5, 7, 8, 9, 10, 121] ?_
                refine s1 tok [0, 2, 5, 7, 8, 9, 10, 122] ?_
                refine s1 tok [0, 2, 4, 5, 7, 8, 9, 10] ?_
                refine AOpsO.nil ?_
                exact ⟨(), trivial, upds_le (by simp [show signM s (k + 1) = k + 1 + 1 from by (unfold signM; rw [if_pos ⟨by omega, h120.2⟩]), show ((k : Int) + 1 < (s.length : Int)) = (k + 1 < s.length) from propext (by omega)]), rfl, by simp [show signM s (k + 1) = k + 1 + 1 from by (unfold signM; rw [if_pos ⟨by omega, h120.2⟩]), show ((k : Int) + 1 < (s.length : Int)) = (k + 1 < s.length) from propext (by omega)], by simp [show signM s (k + 1) = k + 1 + 1 from by (unfold signM; rw [if_pos ⟨by omega, h120.2⟩]), show ((k : Int) + 1 < (s.length : Int)) = (k + 1 < s.length) from propext (by omega)]⟩
              · intro h120
                try simp at h120
                refine AW.skip ?_
                exact ⟨(), trivial, upds_le (by simp [show signM s (k + 1) = k + 1 from by (unfold signM; rw [if_neg (by intro h; have := h120 (by omega); omega)]), show ((k : Int) + 1 < (s.length : Int)) = (k + 1 < s.length) from propext (by omega)]), rfl, by simp [show signM s (k + 1) = k + 1 from by (unfold signM; rw [if_neg (by intro h; have := h120 (by omega); omega)]), show ((k : Int) + 1 < (s.length : Int)) = (k + 1 < s.length) from propext (by omega)], by simp [show signM s (k + 1) = k + 1 from by (unfold signM; rw [if_neg (by intro h; have := h120 (by omega); omega)]), show ((k : Int) + 1 < (s.length : Int)) = (k + 1 < s.length) from propext (by omega)]⟩
            ·
              rintro a hI
              have hsg : signM s (k + 1) ≤ s.length + 1 := by unfold signM; split <;> omega
              have hin3 := runM_in s (signM s (k + 1))
              have hp3 := runM_pos (s := s) (k := signM s (k + 1))
              have hn3 := runM_le s (signM s (k + 1))
              obtain ⟨k3, hk3⟩ : ∃ k3, k3 = signM s (k + 1) := ⟨_, rfl⟩
              rw [← hk3] at hsg hin3 hp3 hn3 ⊢
              refine AW.seqRegionO [.nilp, .int .i64 (runM s k3)] ?_
              refine s1 tok [0, 2, 4, 5, 7, 8, 9, 10, 123] ?_
              refine s1 tok [0, 2, 4, 5, 7, 8, 9, 10, 123, 124] ?_
              refine s1 tok [0, 2, 4, 5, 7, 8, 9, 10, 125] ?_ (hv := by first | with_reducible exact True.intro | (exact hrun k3 (by omega); done) | omega | simp | (simp; omega) | (simp +contextual; omega))
              refine s1 tok [0, 2, 4, 5, 6, 7, 8, 9, 10] ?_
              refine AOpsO.nil ?_
              refine AW.seq ?_
              refine AW.seqRegionO [] ?_
              refine s1 tok [0, 2, 4, 5, 6, 7, 8, 9, 10, 126] ?_
              refine s1 tok [0, 2, 4, 5, 6, 7, 8, 9, 10, 127] ?_
              refine s1 tok [0, 2, 4, 5, 6, 7, 8, 9, 10, 128] ?_
              refine s2 tok [0, 2, 4, 5, 6, 7, 8, 9, 10, 128, 129] 128 rfl rfl ?_
              refine s2 tok [0, 2, 4, 5, 6, 7, 8, 9, 10, 128, 130] 128 rfl rfl ?_
              refine s1 tok [0, 2, 4, 5, 6, 7, 8, 9, 10, 131] ?_
              refine AOpsO.nil ?_
              refine AW.cond (c := .tmp 131) (by conv => lhs; simp) trivial ?_ ?_
              · intro h131
                try simp at h131
                have hP3 : part3 s k = none := by simp only [part3]; rw [if_pos h92, ← hk3, if_pos (by omega)]
                refine AW.seqRegionO [] ?_
                refine s1 tok [2, 132] ?_
                refine s1 tok [2] ?_
                refine s1 tok [2, 3] ?_
                refine AOpsO.nil ?_
                exact AW.ret ⟨.inr rfl, _, _, by (conv => lhs; simp), trivial, by simp [hP3, restM, badDc]⟩
              · intro h131
                try simp at h131
                have hP3 : part3 s k = some (k3 + runM s k3, if k + 1 < s.length ∧ byteAt s (k + 1) = 45 then - upM s k3 (runM s k3) else upM s k3 (runM s k3)) := by simp only [part3]; rw [if_pos h92, ← hk3, if_neg (by omega)]
                have hk3l : k3 < s.length := hp3 (by omega)
                have hdig := fun i => runM_digit (s := s) (k := k3) (i := i)
                refine AW.skip ?_
                refine AW.seq ?_
                refine AW.seqRegionO [] ?_
                refine s1 tok [0, 2, 4, 5, 6, 7, 8, 9, 10, 11] ?_
                refine AOpsO.nil ?_
                refine AW.block ?_
                refine AW.loop (α := Nat) (fun i => i ≤ runM s k3) (fun i => ⟨upds 175 [(0, .p (.str s)), (2, .ptr 2 0), (4, .p (.int .i64 k3)), (5, .p (.bool (negM s))), (6, .p (.int .i64 (runM s k3))), (7, .p (.str digits)), (8, .p (.int .i64 scale)), (9, .p (.int .i64 (upM s k3 i))), (10, .p (.bool (decide (k + 1 < s.length) && decide (byteAt s (k + 1) = 45)))), (11, .p (.int .i64 i))], [], [(2, .vars 26 [.p (.bool false), .p (.str []), .p (.int .i64 0)])], 0⟩) (fun i => runM s k3 - i) (0) (by omega) ⟨upds_le (by simp [upM]), rfl, by simp, by simp⟩ ?_
                rintro i hi
                have hup := upM_range (s := s) (k := k3) (i := i) (by omega) hi
                refine AW.seq ?_
                refine AW.seqRegionO [] ?_
                refine s1 tok [0, 2, 4, 5, 6, 7, 8, 9, 10, 11, 133] ?_
                refine s1 tok [0, 2, 4, 5, 6, 7, 8, 9, 10, 11, 133, 134] ?_
                refine s1 tok [0, 2, 4, 5, 6, 7, 8, 9, 10, 11, 135] ?_
                refine AOpsO.nil ?_
                refine AW.cond (c := .tmp 135) (by conv => lhs; simp) trivial ?_ ?_
                · intro h135
                  try simp at h135
                  have hdi := hdig i h135
                  have hw : IntKind.u8.wrap (byteAt s (k3 + i) - 48) = byteAt s (k3 + i) - 48 := by simp [IntKind.wrap, IntKind.bits, IntKind.signed]; omega
                  refine AW.skip ?_
                  refine AW.seq ?_
                  refine AW.block ?_
                  refine AW.regionO [.int .u8 (byteAt s (k3 + i))] ?_
                  refine s1 tok [0, 2, 4, 5, 6, 7, 8, 10, 11, 138] ?_
                  refine s1 tok [0, 2, 4, 5, 6, 7, 8, 10, 11, 139] ?_ (hv := by first | with_reducible exact True.intro | (((repeat' (first | with_reducible apply And.intro | intro _)) <;> first | omega | assumption | contradiction | exact ⟨_, hix _ (by omega), rfl⟩ | (rw [hw]; omega) | simp_all); done) | omega | simp | (simp; omega) | (simp +contextual; omega))
                  refine s1 tok [0, 2, 4, 5, 6, 7, 8, 10, 11, 139, 140] ?_
                  refine s1 tok [0, 2, 4, 5, 6, 7, 8, 10, 11, 139, 140, 141] ?_
                  refine s1 tok [0, 2, 4, 5, 6, 7, 8, 10, 11, 139, 140, 141, 142] ?_
                  refine s1 tok [0, 2, 4, 5, 6, 7, 8, 10, 11, 139, 140, 143] ?_ (hv := by first | with_reducible exact True.intro | (((repeat' (first | with_reducible apply And.intro | intro _)) <;> first | omega | assumption | contradiction | exact ⟨_, hix _ (by omega), rfl⟩ | (rw [hw]; omega) | simp_all); done) | omega | simp | (simp; omega) | (simp +contextual; omega))
                  refine s1 tok [0, 2, 4, 5, 6, 7, 8, 10, 11, 139, 144] ?_ (hv := by first | with_reducible exact True.intro | (((repeat' (first | with_reducible apply And.intro | intro _)) <;> first | omega | assumption | contradiction | exact ⟨_, hix _ (by omega), rfl⟩ | (rw [hw]; omega) | simp_all); done) | omega | simp | (simp; omega) | (simp +contextual; omega))
                  refine s1 tok [0, 2, 4, 5, 6, 7, 8, 10, 11, 139, 145] ?_ (hv := by first | with_reducible exact True.intro | (((repeat' (first | with_reducible apply And.intro | intro _)) <;> first | omega | assumption | contradiction | exact ⟨_, hix _ (by omega), rfl⟩ | (rw [hw]; omega) | simp_all); done) | omega | simp | (simp; omega) | (simp +contextual; omega))
                  refine s1 tok [0, 2, 4, 5, 6, 7, 8, 10, 11, 139, 146] ?_ (hv := by first | with_reducible exact True.intro | (((repeat' (first | with_reducible apply And.intro | intro _)) <;> first | omega | assumption | contradiction | exact ⟨_, hix _ (by omega), rfl⟩ | (rw [hw]; omega) | simp_all); done) | omega | simp | (simp; omega) | (simp +contextual; omega))
                  refine s1 tok [0, 2, 4, 5, 6, 7, 8, 10, 11, 147] ?_ (hv := by first | with_reducible exact True.intro | (((repeat' (first | with_reducible apply And.intro | intro _)) <;> first | omega | assumption | contradiction | exact ⟨_, hix _ (by omega), rfl⟩ | (rw [hw]; omega) | simp_all); done) | omega | simp | (simp; omega) | (simp +contextual; omega))
                  refine s1 tok [0, 2, 4, 5, 6, 7, 8, 9, 10, 11] ?_
                  refine AOpsO.nil ?_
                  refine AW.regionO [] ?_
                  refine s1 tok [0, 2, 4, 5, 6, 7, 8, 9, 10, 136] ?_
                  refine s1 tok [0, 2, 4, 5, 6, 7, 8, 9, 10, 137] ?_
                  refine s1 tok [0, 2, 4, 5, 6, 7, 8, 9, 10, 11] ?_
                  refine AOpsO.nil ?_
                  exact ⟨i + 1, by omega, by omega, upds_le (by simp [upM, hw]), rfl, by simp [upM, hw], by simp [upM, hw]⟩
                · intro h135
                  try simp at h135
                  have hi2 : i = runM s k3 := by omega
                  subst hi2
                  have hup2 := hin3 (by omega)
                  have hw2 : IntKind.i64.wrap (- upM s k3 (runM s k3)) = - upM s k3 (runM s k3) := by simp [IntKind.wrap, IntKind.bits, IntKind.signed]; omega
                  refine AW.exit ?_
                  simp
                  refine AW.seqRegionO [] ?_
                  refine s1 tok [0, 2, 5, 6, 7, 8, 9, 10, 148] ?_
                  refine s1 tok [0, 2, 5, 7, 8, 9, 10, 148, 149] ?_
                  refine s1 tok [0, 2, 5, 7, 8, 9, 10, 150] ?_
                  refine s1 tok [0, 2, 4, 5, 7, 8, 9, 10] ?_
                  refine AOpsO.nil ?_
                  refine AW.seqRegionO [] ?_
                  refine s1 tok [0, 2, 4, 5, 7, 8, 9, 151] ?_
                  refine AOpsO.nil ?_
                  refine AW.cond (c := .tmp 151) (by conv => lhs; simp) trivial ?_ ?_
                  · intro h151
                    try simp at h151
                    rw [if_pos h151] at hP3
                    refine AW.regionO [] ?_
                    refine s1 tok [0, 2, 4, 5, 7, 8, 152] ?_
                    refine s1 tok [0, 2, 4, 5, 7, 8, 153] ?_
                    refine s1 tok [0, 2, 4, 5, 7, 8, 9] ?_
                    refine AOpsO.nil ?_
                    exact ⟨k3 + runM s k3, - upM s k3 (runM s k3), ⟨hP3, by omega, by omega, by omega⟩, upds_le (by simp [hw2]), rfl, by simp [hw2], by simp [hw2]⟩
                  · intro h151
                    try simp at h151
                    rw [if_neg (by intro h; exact h151 h.1 h.2)] at hP3
                    refine AW.skip ?_
                    exact ⟨k3 + runM s k3, upM s k3 (runM s k3), ⟨hP3, by omega, by omega, by omega⟩, upds_le (by simp), rfl, by simp, by simp⟩
          · intro h92
            try simp at h92
            refine AW.skip ?_
            exact ⟨(k, 0), ⟨by simp only [part3]; rw [if_neg (by intro h; have := h92 h.1; omega)], by show k ≤ 300000; omega, by simp, by simp⟩, upds_le (by simp), rfl, by simp, by simp⟩
        ·
          rintro ⟨k2, up⟩ ⟨hp3, hk2, hu1, hu2⟩
          simp only at hk2 hu1 hu2
          rw [hp3]
          refine AW.seq ?_
          refine AW.seqRegionO [] ?_
          refine s1 tok [0, 2, 5, 7, 8, 9, 154] ?_
          refine s1 tok [2, 5, 7, 8, 9, 154, 155] ?_
          refine s1 tok [2, 5, 7, 8, 9, 154, 156] ?_
          refine s1 tok [2, 5, 7, 8, 9, 157] ?_
          refine AOpsO.nil ?_
          refine AW.cond (c := .tmp 157) (by conv => lhs; simp) trivial ?_ ?_
          · intro h157
            try simp at h157
            have hR : restM s (negM s) digits scale (some (k2, up)) = badDc := by simp only [restM]; rw [if_neg (by omega)]
            refine AW.seqRegionO [] ?_
            refine s1 tok [2, 158] ?_
            refine s1 tok [2] ?_
            refine s1 tok [2, 3] ?_
            refine AOpsO.nil ?_
            exact AW.ret ⟨.inr rfl, _, _, by (conv => lhs; simp), trivial, by simp [hR, badDc]⟩
          · intro h157
            try simp at h157
            have hR : restM s (negM s) digits scale (some (k2, up)) = lastM (negM s) digits (scale - up) := by simp only [restM]; rw [if_pos (by omega)]
            rw [hR]
            clear hR hp3
            have hw3 : IntKind.i64.wrap (-((scale : Int) - up)) = -((scale : Int) - up) := by simp [IntKind.wrap, IntKind.bits, IntKind.signed]; omega
            have hz := zeros_ev (G := G) (-((scale : Int) - up)) (by omega)
            have hzl : (zerosM (-((scale : Int) - up)).toNat).length ≤ 300000 := by simp [zerosM]; omega
            refine AW.skip ?_
            refine AW.seqRegionO [] ?_
            refine s1 tok [2, 5, 7, 9, 159] ?_
            refine s1 tok [2, 5, 7, 159, 160] ?_
            refine s1 tok [2, 5, 7, 161] ?_
            refine s1 tok [2, 5, 7, 8] ?_
            refine AOpsO.nil ?_
            refine AW.seq ?_
            refine AW.seqRegionO [] ?_
            refine s1 tok [2, 5, 7, 8, 162] ?_
            refine s1 tok [2, 5, 7, 8, 163] ?_
            refine AOpsO.nil ?_
            refine AW.cond (c := .tmp 163) (by conv => lhs; simp) trivial ?_ ?_
            · intro h163
              try simp at h163
              have hL : lastM (negM s) digits ((scale : Int) - up) = NormM (negM s) (digits ++ zerosM (-((scale : Int) - up)).toNat) 0 := by simp only [lastM]; rw [if_pos (by omega)]
              have hN := Norm_ev (G := G) (negM s) (digits ++ zerosM (-((scale : Int) - up)).toNat) 0 (by simp; omega) (by omega)
              refine AW.seqRegionO [.nilp, .str (zerosM (-((scale : Int) - up)).toNat)] ?_
              refine s1 tok [2, 5, 8, 164] ?_
              refine s1 tok [2, 5, 164, 165] ?_
              refine s1 tok [2, 5, 164, 166] ?_ (hv := by first | with_reducible exact True.intro | (first | (rw [hw3]; exact hz) | omega; done) | omega | simp | (simp; omega) | (simp +contextual; omega))
              refine s1 tok [2, 5, 164, 167] ?_ (hv := by first | with_reducible exact True.intro | (first | (rw [hw3]; exact hz) | omega; done) | omega | simp | (simp; omega) | (simp +contextual; omega))
              refine s1 tok [2, 5, 168] ?_ (hv := by first | with_reducible exact True.intro | (first | (rw [hw3]; exact hz) | omega; done) | omega | simp | (simp; omega) | (simp +contextual; omega))
              refine s1 tok [2, 5, 7] ?_
              refine AOpsO.nil ?_
              refine AW.regionO [] ?_
              refine s1 tok [2, 5, 7, 8] ?_
              refine AOpsO.nil ?_
              refine AW.seqRegionO [.nilp, .tup [(NormM (negM s) (digits ++ zerosM (-((scale : Int) - up)).toNat) 0).1.enc, .int .i64 (NormM (negM s) (digits ++ zerosM (-((scale : Int) - up)).toNat) 0).2]] ?_
              refine s1 tok [2, 7, 8, 169] ?_
              refine s1 tok [2, 8, 169, 170] ?_
              refine s1 tok [2, 169, 170, 171] ?_
              refine s1 tok [2, 172] ?_ (hv := by first | with_reducible exact True.intro | (first | exact hN | simp; done) | omega | simp | (simp; omega) | (simp +contextual; omega))
              refine s1 tok [2, 172, 173] ?_
              refine s1 tok [2, 173, 174] ?_
              refine s1 tok [2, 174] ?_ (hv := by first | with_reducible exact True.intro | (first | exact hN | simp; done) | omega | simp | (simp; omega) | (simp +contextual; omega))
              refine s1 tok [2, 3] ?_
              refine AOpsO.nil ?_
              exact AW.ret ⟨.inr rfl, _, _, by (conv => lhs; simp), trivial, by simp [hL]⟩
            · intro h163
              try simp at h163
              obtain ⟨sc, hsc2⟩ : ∃ sc : Nat, (sc : Int) = (scale : Int) - up := ⟨((scale : Int) - up).toNat, by omega⟩
              have hL : lastM (negM s) digits ((scale : Int) - up) = NormM (negM s) digits sc := by simp only [lastM]; rw [if_neg (by omega), ← hsc2]; rfl
              have hN := Norm_ev (G := G) (negM s) digits sc (by omega) (by omega)
              rw [hsc2] at hN
              refine AW.skip ?_
              refine AW.seqRegionO [.nilp, .tup [(NormM (negM s) digits sc).1.enc, .int .i64 (NormM (negM s) digits sc).2]] ?_
              refine s1 tok [2, 7, 8, 169] ?_
              refine s1 tok [2, 8, 169, 170] ?_
              refine s1 tok [2, 169, 170, 171] ?_
              refine s1 tok [2, 172] ?_ (hv := by first | with_reducible exact True.intro | (first | exact hN | simp; done) | omega | simp | (simp; omega) | (simp +contextual; omega))
              refine s1 tok [2, 172, 173] ?_
              refine s1 tok [2, 173, 174] ?_
              refine s1 tok [2, 174] ?_ (hv := by first | with_reducible exact True.intro | (first | exact hN | simp; done) | omega | simp | (simp; omega) | (simp +contextual; omega))
              refine s1 tok [2, 3] ?_
              refine AOpsO.nil ?_
              exact AW.ret ⟨.inr rfl, _, _, by (conv => lhs; simp), trivial, by simp [hL]⟩
end Go.Proofs.YtdlejiiiifhiiaaGreatDoor
/-
  A PLAIN LAW: a decimal that was printed is parsed as it was.
-/
namespace Go.Proofs.YtdlejiiiifhiiaaGreatDoor
open Sy Go
set_option linter.unusedSimpArgs false
set_option linter.unusedVariables false

/-! ## -/
def padM (d : Dc) : List UInt8 := zerosM (d.scale.toNat + 1 - d.digits.length) ++ d.digits
/-- A decimal's text. -/
def PrintM (d : Dc) : List UInt8 := (if d.neg = true then [45] else []) ++ (if d.scale = 0 then padM d else (padM d).take ((padM d).length - d.scale.toNat) ++ 46 :: (padM d).drop ((padM d).length - d.scale.toNat))
theorem run_of {s W F : List UInt8} {k : Nat} (h : s.drop k = W ++ F) (hW : W.all isDig = true) (hF : ∀ b, F.head? = some b → isDig b = false) : runM s k = W.length := by
  unfold runM
  rw [h]
  have : ∀ (W : List UInt8), W.all isDig = true → ((W ++ F).takeWhile fun b => digitM b.toNat) = W := by
    intro W
    induction W with
    | nil =>
      intro _
      cases F with
      | nil => rfl
      | cons b F => have := hF b rfl; simp [isDig] at this; simp [List.takeWhile_cons, this]
    | cons b W ih =>
      intro h
      simp only [List.all_cons, Bool.and_eq_true, isDig] at h
      simp [List.takeWhile_cons, h.1, ih h.2]
  rw [this W hW]
theorem byteAt_drop {s : List UInt8} {k : Nat} {b : UInt8} {t : List UInt8} (h : s.drop k = b :: t) : k < s.length ∧ byteAt s k = b.toNat := by
  have h1 : k < s.length := by
    rcases Nat.lt_or_ge k s.length with h1 | h1
    · exact h1
    · rw [List.drop_eq_nil_of_le h1] at h; cases h
  refine ⟨h1, ?_⟩
  have : s[k]? = some b := by
    have := congrArg (fun l => l[0]?) h
    simpa using this
  simp [byteAt, List.getD_eq_getElem?_getD, this]
theorem strip_zeros (n : Nat) (s : List UInt8) : strip0 (zerosM n ++ s) = strip0 s := by
  induction n with
  | zero => rfl
  | succ n ih => simp only [zerosM, List.replicate_succ, List.cons_append, strip0, List.dropWhile_cons] at ih ⊢; simp [ih]
theorem norm_back {d : Dc} (h : dcMay d = true) (n : Nat) : NormM d.neg (zerosM n ++ d.digits) d.scale.toNat = (d, 0) := by
  unfold dcMay at h
  simp only [Bool.and_eq_true, decide_eq_true_eq] at h
  obtain ⟨⟨h1, h2⟩, h3⟩ := h
  unfold NormM
  rw [strip_zeros]
  by_cases hz : d.digits = [48]
  · rw [if_pos hz] at h3
    simp at h3
    have : strip0 d.digits = [] := by rw [hz]; rfl
    rw [this, h3.1]
    simp only [Int.toNat_zero, trail, if_true]
    obtain ⟨ng, dg, sc⟩ := d
    simp only at hz h3 ⊢
    rw [hz, h3.1, h3.2]
  · rw [if_neg hz] at h3
    simp at h3
    obtain ⟨ng, dg, sc⟩ := d
    simp only at hz h1 h2 h3 ⊢
    have e1 : strip0 dg = dg := by
      cases dg with
      | nil => rfl
      | cons b t =>
        have hb : b ≠ 48 := by rintro rfl; exact h3.1 rfl
        simp [strip0, List.dropWhile_cons, hb]
    have e2 : trail dg sc.toNat = (dg, sc.toNat) := by
      cases hs : sc.toNat with
      | zero => rfl
      | succ k =>
        simp only [trail]
        rw [if_neg]
        intro hl
        have := (byteAt_last (d := dg) (by omega)).2 hl
        rcases h3.2 with h | h
        · omega
        · exact h this
    rw [e1, e2]
    simp only
    rw [if_neg (by intro e; rw [e] at h2; simp at h2), if_neg (by omega)]
    rw [show ((sc.toNat : Nat) : Int) = sc by omega]
theorem all_zeros (n : Nat) : (zerosM n).all isDig = true := by
  rw [List.all_eq_true]; intro b hb; have := (List.mem_replicate.1 hb).2; subst this; decide
theorem all_take {p : UInt8 → Bool} {l : List UInt8} (h : l.all p = true) (n : Nat) : (l.take n).all p = true := by
  rw [List.all_eq_true] at h ⊢; exact fun b hb => h b (List.mem_of_mem_take hb)
theorem all_drop {p : UInt8 → Bool} {l : List UInt8} (h : l.all p = true) (n : Nat) : (l.drop n).all p = true := by
  rw [List.all_eq_true] at h ⊢; exact fun b hb => h b (List.mem_of_mem_drop hb)
/-- What a text of the right form is parsed as. -/
theorem parse_form (ng : Bool) (W R : List UInt8) (hW : W.all isDig = true) (hR : R.all isDig = true) (h0 : W ≠ []) (h1 : W.length = 1 ∨ byteAt W 0 ≠ 48) :
    ParseM ((if ng = true then [45] else []) ++ (W ++ if R = [] then [] else 46 :: R)) = NormM ng (W ++ R) R.length := by
  generalize hF : (if R = [] then [] else 46 :: R) = F
  generalize hs : ((if ng = true then [45] else []) ++ (W ++ F)) = s
  obtain ⟨w0, W', rfl⟩ : ∃ w0 W', W = w0 :: W' := by cases W with
    | nil => exact absurd rfl h0
    | cons a W => exact ⟨a, W, rfl⟩
  have hw0 : isDig w0 = true := by simp only [List.all_cons, Bool.and_eq_true] at hW; exact hW.1
  have hw1 : w0.toNat ≠ 45 := by simp [isDig, digitM] at hw0; omega
  have hng : negM s = ng := by
    rw [← hs]
    cases ng with
    | true => simp [negM, byteAt]
    | false => simp [negM, byteAt]; omega
  have ha : s.drop (a0M s) = (w0 :: W') ++ F := by
    unfold a0M; rw [hng, ← hs]
    cases ng <;> simp
  have hal : a0M s = (if ng = true then [45] else [] : List UInt8).length := by
    unfold a0M; rw [hng]; cases ng <;> rfl
  have hFh : ∀ b, F.head? = some b → isDig b = false := by
    rw [← hF]; split
    · simp
    · intro b hb; simp at hb; subst hb; decide
  have hrun := run_of ha hW hFh
  have hb0 := byteAt_drop (s := s) (k := a0M s) (b := w0) (t := W' ++ F) ha
  unfold ParseM
  rw [hrun, hng]
  rw [if_neg (by
    rintro (h | ⟨h, h'⟩)
    · simp at h
    · rcases h1 with h1 | h1
      · omega
      · rw [hb0.2] at h'; exact h1 (by simpa [byteAt] using h'))]
  have hdg : (s.take (a0M s + (w0 :: W').length)).drop (a0M s) = w0 :: W' := by
    rw [← List.take_drop, ha, List.take_left]
  have hdF : s.drop (a0M s + (w0 :: W').length) = F := by
    rw [← List.drop_drop, ha, List.drop_left]
  have hsl : s.length = a0M s + (w0 :: W').length + F.length := by
    rw [hal, ← hs]; simp; omega
  rw [hdg]
  have fin : ∀ (x : List UInt8) (n : Nat), tailM s ng (some (s.length, x, n)) = NormM ng x n := by
    intro x n
    simp only [tailM]
    have : part3 s s.length = some (s.length, 0) := by unfold part3; rw [if_neg (by omega)]
    rw [this]
    simp only [restM, if_true, lastM]
    rw [if_neg (by omega)]
    simp
  generalize hk : a0M s + (w0 :: W').length = k at *
  by_cases hRe : R = []
  · subst hRe
    have hF2 : F = [] := by rw [← hF]; rfl
    have hks : k = s.length := by rw [hsl, hF2]; simp
    have : part2 s k (w0 :: W') = some (k, w0 :: W', 0) := by unfold part2; rw [if_neg (by omega)]
    rw [this, hks, fin]
    simp
  · have hF2 : F = 46 :: R := by rw [← hF, if_neg hRe]
    have hb1 := byteAt_drop (hdF.trans hF2)
    have hd2 : s.drop (k + 1) = R ++ [] := by rw [← List.drop_drop, hdF, hF2]; simp
    have hr2 := run_of hd2 hR (by simp)
    have hRl : 0 < R.length := List.length_pos_iff.2 hRe
    have : part2 s k (w0 :: W') = some (s.length, w0 :: W' ++ R, R.length) := by
      unfold part2
      rw [if_pos ⟨hb1.1, by rw [hb1.2]; rfl⟩, hr2, if_neg (by omega)]
      have e1 : k + 1 + R.length = s.length := by rw [hsl, hF2]; simp; omega
      rw [e1, List.take_length, hd2, List.append_nil]
    rw [this, fin]
theorem print_form {d : Dc} (h : dcMay d = true) : ∃ W R : List UInt8, PrintM d = (if d.neg = true then [45] else []) ++ (W ++ if R = [] then [] else 46 :: R) ∧ W.all isDig = true ∧ R.all isDig = true ∧ W ≠ [] ∧ (W.length = 1 ∨ byteAt W 0 ≠ 48) ∧ NormM d.neg (W ++ R) R.length = (d, 0) := by
  have hd := h
  unfold dcMay at hd
  simp only [Bool.and_eq_true, decide_eq_true_eq] at hd
  obtain ⟨⟨h1, h2⟩, h3⟩ := hd
  have hpa : (padM d).all isDig = true := by unfold padM; rw [List.all_append, all_zeros, h1]; rfl
  have hpl : (padM d).length = if d.scale.toNat + 1 ≤ d.digits.length then d.digits.length else d.scale.toNat + 1 := by
    unfold padM; simp [zerosM]; split <;> omega
  have hn := norm_back h (d.scale.toNat + 1 - d.digits.length)
  have hp0 : byteAt (padM d) 0 = 48 → padM d = [48] ∨ (d.digits.length ≤ d.scale.toNat) := by
    intro hb
    by_cases hz : d.digits.length ≤ d.scale.toNat
    · exact .inr hz
    · refine .inl ?_
      have e : padM d = d.digits := by unfold padM; rw [show d.scale.toNat + 1 - d.digits.length = 0 by omega]; rfl
      rw [e] at hb ⊢
      by_cases hz : d.digits = [48]
      · exact hz
      · rw [if_neg hz] at h3; simp at h3; exact absurd hb h3.1
  unfold PrintM
  by_cases hs : d.scale = 0
  · rw [if_pos hs]
    refine ⟨padM d, [], by simp, hpa, rfl, by intro e; rw [e] at hpl; simp at hpl; split at hpl <;> omega, ?_, ?_⟩
    · by_cases hb : byteAt (padM d) 0 = 48
      · rcases hp0 hb with e | e
        · rw [e]; exact .inl rfl
        · omega
      · exact .inr hb
    · rw [List.append_nil, List.length_nil, show (0 : Nat) = d.scale.toNat by omega]
      exact hn
  · rw [if_neg hs]
    have hle : d.scale.toNat + 1 ≤ (padM d).length := by rw [hpl]; split <;> omega
    have hRl : ((padM d).drop ((padM d).length - d.scale.toNat)).length = d.scale.toNat := by rw [List.length_drop]; omega
    have hWl : ((padM d).take ((padM d).length - d.scale.toNat)).length = (padM d).length - d.scale.toNat := by rw [List.length_take]; omega
    have hRne : (padM d).drop ((padM d).length - d.scale.toNat) ≠ [] := by intro e; rw [e] at hRl; simp at hRl; omega
    have hWne : (padM d).take ((padM d).length - d.scale.toNat) ≠ [] := by intro e; rw [e] at hWl; simp at hWl; omega
    have hb0 : byteAt ((padM d).take ((padM d).length - d.scale.toNat)) 0 = byteAt (padM d) 0 := by
      unfold byteAt
      rw [List.getD_eq_getElem?_getD, List.getElem?_take, if_pos (by omega), ← List.getD_eq_getElem?_getD]
    refine ⟨(padM d).take ((padM d).length - d.scale.toNat), (padM d).drop ((padM d).length - d.scale.toNat), by rw [if_neg hRne], all_take hpa _, all_drop hpa _, hWne, ?_, ?_⟩
    · rw [hb0]
      by_cases hb : byteAt (padM d) 0 = 48
      · rcases hp0 hb with e | e
        · rw [e] at hle; simp at hle; omega
        · left; rw [hWl, hpl, if_neg (by omega)]; omega
      · exact .inr hb
    · rw [hRl, List.take_append_drop]
      exact hn
theorem parse_print {d : Dc} (h : dcMay d = true) : ParseM (PrintM d) = (d, 0) := by
  obtain ⟨W, R, hp, hW, hR, h0, h1, hn⟩ := print_form h
  rw [hp, parse_form d.neg W R hW hR h0 h1, hn]
end Go.Proofs.YtdlejiiiifhiiaaGreatDoor
/-
  PLAIN: how a decimal is parsed, by what is left; one that was printed is parsed as it was.
-/
namespace Go.Proofs.YtdlejiiiifhiiaaGreatDoor
open Sy Go
set_option linter.unusedSimpArgs false
set_option linter.unusedVariables false
def valI (D : List UInt8) : Nat := D.foldl (fun n c => n * 10 + (c.toNat - 48)) 0
def signL (t : List UInt8) : List UInt8 := if t.head? = some 45 ∨ t.head? = some 43 then t.drop 1 else t
def expL (s : List UInt8) : Option Int := match s with
  | [] => some 0
  | b :: t => if b ≠ 101 ∧ b ≠ 69 then none
    else if (signL t).dropWhile isDig ≠ [] ∨ ((signL t).takeWhile isDig).length < 1 ∨ 2 < ((signL t).takeWhile isDig).length then none
    else some (if t.head? = some 45 then - (valI ((signL t).takeWhile isDig) : Int) else valI ((signL t).takeWhile isDig))
def negL (s : List UInt8) : Bool := decide (s.head? = some 45)
def bodyL (s : List UInt8) : List UInt8 := if s.head? = some 45 then s.drop 1 else s
/-- Behind the whole part: the digits behind the point, and what is left; none: a point without digits. -/
def fracL (r : List UInt8) : Option (List UInt8 × List UInt8) :=
  if r.head? = some 46 then (if (r.drop 1).takeWhile isDig = [] then none else some ((r.drop 1).takeWhile isDig, (r.drop 1).dropWhile isDig)) else some ([], r)
def endL (neg : Bool) (W P : List UInt8) : Option Int → Dc × Int
  | none => badDc
  | some up => if W = [] ∨ (1 < W.length ∧ W.head? = some 48) then badDc else lastM neg (W ++ P) (P.length - up)
def ParseL (s : List UInt8) : Dc × Int := match fracL ((bodyL s).dropWhile isDig) with
  | none => badDc
  | some (P, r) => endL (negL s) ((bodyL s).takeWhile isDig) P (expL r)
theorem tw_of {W F : List UInt8} (hW : W.all isDig = true) (hF : ∀ b, F.head? = some b → isDig b = false) : (W ++ F).takeWhile isDig = W ∧ (W ++ F).dropWhile isDig = F := by
  induction W with
  | nil =>
    cases F with
    | nil => exact ⟨rfl, rfl⟩
    | cons b F => have := hF b rfl; simp [List.takeWhile_cons, List.dropWhile_cons, this]
  | cons b W ih =>
    simp only [List.all_cons, Bool.and_eq_true] at hW
    obtain ⟨h1, h2⟩ := ih hW.2
    simp [List.takeWhile_cons, List.dropWhile_cons, hW.1, h1, h2]
theorem parseL_form (ng : Bool) (W R : List UInt8) (hW : W.all isDig = true) (hR : R.all isDig = true) (h0 : W ≠ []) (h1 : W.length = 1 ∨ byteAt W 0 ≠ 48) :
    ParseL ((if ng = true then [45] else []) ++ (W ++ if R = [] then [] else 46 :: R)) = NormM ng (W ++ R) R.length := by
  generalize hF : (if R = [] then [] else 46 :: R) = F
  generalize hs : ((if ng = true then [45] else []) ++ (W ++ F)) = s
  obtain ⟨w0, W', rfl⟩ : ∃ w0 W', W = w0 :: W' := by cases W with
    | nil => exact absurd rfl h0
    | cons a W => exact ⟨a, W, rfl⟩
  have hw0 : isDig w0 = true := by simp only [List.all_cons, Bool.and_eq_true] at hW; exact hW.1
  have hw1 : w0 ≠ 45 := by rintro rfl; revert hw0; decide
  have hb : bodyL s = (w0 :: W') ++ F ∧ negL s = ng := by
    rw [← hs]
    cases ng with
    | true => simp [bodyL, negL]
    | false => simp [bodyL, negL, hw1]
  have hFh : ∀ b, F.head? = some b → isDig b = false := by
    rw [← hF]; split
    · simp
    · intro b hb; simp at hb; subst hb; decide
  obtain ⟨t1, t2⟩ := tw_of hW hFh
  have hfr : fracL F = some (R, []) := by
    rw [← hF]
    split
    · rename_i hR0; subst hR0; rfl
    · rename_i hR0
      obtain ⟨t3, t4⟩ := tw_of (W := R) (F := []) hR (by simp)
      rw [List.append_nil] at t3 t4
      unfold fracL
      simp only [List.head?_cons, if_true, List.drop_succ_cons, List.drop_zero, t3, t4]
      rw [if_neg hR0]
  unfold ParseL
  rw [hb.1, hb.2, t1, t2, hfr]
  simp only [expL, endL]
  rw [if_neg (by
    rintro (h | ⟨h, h'⟩)
    · cases h
    · rcases h1 with h1 | h1
      · omega
      · simp at h'; subst h'; exact h1 rfl)]
  unfold lastM
  rw [if_neg (by omega)]
  simp
theorem parseL_print {d : Dc} (h : dcMay d = true) : ParseL (PrintM d) = (d, 0) := by
  obtain ⟨W, R, hp, hW, hR, h0, h1, hn⟩ := print_form h
  rw [hp, parseL_form d.neg W R hW hR h0 h1, hn]
end Go.Proofs.YtdlejiiiifhiiaaGreatDoor
/-
  PLAIN: the two ways to parse a decimal are one; which texts are numbers.
-/
namespace Go.Proofs.YtdlejiiiifhiiaaGreatDoor
open Sy Go
set_option linter.unusedSimpArgs false
set_option linter.unusedVariables false
theorem is_lit (b : UInt8) (n : Nat) (hn : n < 256) : ((b.toNat : Int) = (n : Int)) ↔ b = UInt8.ofNat n := by
  constructor
  · intro e; exact UInt8.toNat_inj.1 (by rw [UInt8.toNat_ofNat']; omega)
  · rintro rfl; rw [UInt8.toNat_ofNat']; omega
theorem runM_len (s : List UInt8) (k : Nat) : runM s k = ((s.drop k).takeWhile isDig).length := rfl
theorem split_dig (l : List UInt8) : l = l.takeWhile isDig ++ l.dropWhile isDig := (List.takeWhile_append_dropWhile).symm
theorem upM_val (s : List UInt8) (k : Nat) : ∀ i, i ≤ runM s k → upM s k i = (valI ((s.drop k).take i) : Int)
  | 0, _ => by simp [upM, valI]
  | i + 1, h => by
    have hd := runM_digit (s := s) (k := k) (i := i) (by omega)
    have hg : (s.drop k)[i]? = some (s.getD (k + i) 0) := by
      rw [List.getElem?_drop, List.getD_eq_getElem?_getD]
      have : k + i < s.length := hd.1
      simp [List.getElem?_eq_getElem this]
    rw [upM, upM_val s k i (by omega), List.take_add_one, hg]
    simp only [Option.toList_some, valI, List.foldl_append, List.foldl_cons, List.foldl_nil]
    have hb : byteAt s (k + i) = ((s.getD (k + i) 0).toNat : Int) := rfl
    omega
theorem drop_cons {s : List UInt8} {k : Nat} {b : UInt8} {t : List UInt8} (h : s.drop k = b :: t) : s.drop (k + 1) = t := by
  rw [← List.drop_drop, h]; rfl
theorem sign_drop {s : List UInt8} {k : Nat} : s.drop (signM s k) = signL (s.drop k) ∧ (k < s.length ∧ byteAt s k = 45 ↔ (s.drop k).head? = some 45) := by
  cases h : s.drop k with
  | nil =>
    have : ¬ k < s.length := by have := List.drop_eq_nil_iff.1 h; omega
    refine ⟨?_, by simp; omega⟩
    unfold signM signL
    rw [if_neg (by omega), h]; simp
  | cons b t =>
    obtain ⟨h1, h2⟩ := byteAt_drop h
    have e45 : byteAt s k = 45 ↔ b = 45 := by rw [h2]; exact is_lit b 45 (by decide)
    have e43 : byteAt s k = 43 ↔ b = 43 := by rw [h2]; exact is_lit b 43 (by decide)
    refine ⟨?_, by simp [h1, e45]⟩
    unfold signM signL
    simp only [h1, e45, e43, true_and, List.head?_cons, Option.some.injEq, List.drop_succ_cons, List.drop_zero]
    split
    · exact drop_cons h
    · exact h
theorem rest_eq (s : List UInt8) (k : Nat) (hk : k ≤ s.length) (neg : Bool) (digits : List UInt8) (scale : Nat) :
    restM s neg digits scale (part3 s k) = match expL (s.drop k) with
      | none => badDc
      | some up => lastM neg digits (scale - up) := by
  cases h : s.drop k with
  | nil =>
    have : ¬ k < s.length := by have := List.drop_eq_nil_iff.1 h; omega
    simp only [part3, expL]
    rw [if_neg (by omega)]
    simp only [restM]
    rw [if_pos (by omega)]
  | cons b t =>
    obtain ⟨h1, h2⟩ := byteAt_drop h
    have e1 : byteAt s k = 101 ↔ b = 101 := by rw [h2]; exact is_lit b 101 (by decide)
    have e2 : byteAt s k = 69 ↔ b = 69 := by rw [h2]; exact is_lit b 69 (by decide)
    simp only [part3, expL, h1, true_and, e1, e2]
    by_cases hb : b = 101 ∨ b = 69
    · rw [if_pos hb, if_neg (show ¬ (b ≠ 101 ∧ b ≠ 69) from fun h => by rcases hb with hb | hb; exact h.1 hb; exact h.2 hb)]
      obtain ⟨sd, sh⟩ := sign_drop (s := s) (k := k + 1)
      rw [drop_cons h] at sd sh
      have hrun := runM_len s (signM s (k + 1))
      have hup := upM_val s (signM s (k + 1)) _ (Nat.le_refl _)
      rw [sd] at hrun hup
      have hsp := split_dig (signL t)
      have hlen : (s.drop (signM s (k + 1))).length = (signL t).length := by rw [sd]
      rw [List.length_drop] at hlen
      have hl2 := congrArg List.length hsp
      rw [List.length_append, ← hrun] at hl2
      generalize signM s (k + 1) = sg at *
      have htk : (signL t).take (runM s sg) = (signL t).takeWhile isDig := by
        conv => lhs; rw [hsp, hrun]
        exact List.take_left
      rw [htk] at hup
      rw [hup, ← hrun]
      by_cases hD : runM s sg < 1 ∨ 2 < runM s sg
      · rw [if_pos hD, if_pos (.inr hD)]
        rfl
      · rw [if_neg hD]
        by_cases hE : (signL t).dropWhile isDig = []
        · rw [if_neg (show ¬ ((signL t).dropWhile isDig ≠ [] ∨ runM s sg < 1 ∨ 2 < runM s sg) from fun h => h.elim (fun h => h hE) hD)]
          rw [hE, List.length_nil] at hl2
          simp only [restM]
          rw [if_pos (show sg + runM s sg = s.length by omega)]
          simp only [sh]
        · rw [if_pos (show (signL t).dropWhile isDig ≠ [] ∨ runM s sg < 1 ∨ 2 < runM s sg from .inl hE)]
          have := List.length_pos_iff.2 hE
          simp only [restM]
          rw [if_neg (show ¬ sg + runM s sg = s.length by omega)]
    · rw [if_neg hb, if_pos (show b ≠ 101 ∧ b ≠ 69 from by simp only [not_or] at hb; exact hb)]
      simp only [restM]
      rw [if_neg (by omega)]
theorem tail_eq (s : List UInt8) (k : Nat) (hk : k ≤ s.length) (neg : Bool) (dg : List UInt8) :
    tailM s neg (part2 s k dg) = match fracL (s.drop k) with
      | none => badDc
      | some (P, r) => (match expL r with
        | none => badDc
        | some up => lastM neg (dg ++ P) (P.length - up)) := by
  cases h : s.drop k with
  | nil =>
    have : ¬ k < s.length := by have := List.drop_eq_nil_iff.1 h; omega
    simp only [part2, fracL]
    rw [if_neg (by omega), if_neg (by simp)]
    simp only [tailM]
    rw [rest_eq s k hk, h]
    simp
  | cons b t =>
    obtain ⟨h1, h2⟩ := byteAt_drop h
    have e1 : byteAt s k = 46 ↔ b = 46 := by rw [h2]; exact is_lit b 46 (by decide)
    simp only [part2, fracL, h1, true_and, e1, List.head?_cons, Option.some.injEq, List.drop_succ_cons, List.drop_zero]
    by_cases hb : b = 46
    · rw [if_pos hb, if_pos hb]
      have hd := drop_cons h
      have hrun := runM_len s (k + 1)
      rw [hd] at hrun
      have hsp := split_dig t
      have hin := runM_in s (k + 1) (by omega)
      by_cases hP : t.takeWhile isDig = []
      · rw [if_pos hP, if_pos (by rw [hrun, hP]; rfl)]
        rfl
      · rw [if_neg hP, if_neg (by rw [hrun]; have := List.length_pos_iff.2 hP; omega)]
        simp only [tailM]
        rw [rest_eq s _ hin]
        have hd2 : s.drop (k + 1 + runM s (k + 1)) = t.dropWhile isDig := by
          rw [← List.drop_drop, hd, hrun]
          conv => lhs; arg 2; rw [hsp]
          exact List.drop_left
        have ht2 : (s.take (k + 1 + runM s (k + 1))).drop (k + 1) = t.takeWhile isDig := by
          rw [List.drop_take, hd, show k + 1 + runM s (k + 1) - (k + 1) = (t.takeWhile isDig).length by omega]
          conv => lhs; arg 2; rw [hsp]
          exact List.take_left
        rw [hd2, ht2, hrun]
    · rw [if_neg hb, if_neg hb]
      simp only [tailM]
      rw [rest_eq s k hk, h]
      simp
theorem parse_eq (s : List UInt8) : ParseM s = ParseL s := by
  have hb : bodyL s = s.drop (a0M s) ∧ negL s = negM s ∧ a0M s ≤ s.length := by
    cases s with
    | nil => exact ⟨rfl, rfl, by decide⟩
    | cons b t =>
      have : negM (b :: t) = decide (b = 45) := by
        unfold negM
        rw [show byteAt (b :: t) 0 = (b.toNat : Int) from rfl]
        rw [Bool.eq_iff_iff]
        simp
        exact is_lit b 45 (by decide)
      refine ⟨?_, by unfold negL; rw [this]; simp, by unfold a0M; split <;> simp⟩
      unfold bodyL a0M
      rw [this]
      by_cases hb : b = 45
      · simp [hb]
      · simp [hb]
  obtain ⟨h1, h2, h3⟩ := hb
  unfold ParseM ParseL
  rw [h1, h2]
  have hrun := runM_len s (a0M s)
  have hin := runM_in s (a0M s) h3
  have hsp := split_dig (s.drop (a0M s))
  have ht2 : (s.take (a0M s + runM s (a0M s))).drop (a0M s) = (s.drop (a0M s)).takeWhile isDig := by
    rw [List.drop_take, show a0M s + runM s (a0M s) - a0M s = ((s.drop (a0M s)).takeWhile isDig).length by omega]
    conv => lhs; arg 2; rw [hsp]
    exact List.take_left
  have hd2 : s.drop (a0M s + runM s (a0M s)) = (s.drop (a0M s)).dropWhile isDig := by
    rw [← List.drop_drop, hrun]
    conv => lhs; arg 2; rw [hsp]
    exact List.drop_left
  rw [tail_eq s _ hin, ht2, hd2]
  generalize hW : (s.drop (a0M s)).takeWhile isDig = W at *
  have hc : (runM s (a0M s) = 0 ∨ (1 < runM s (a0M s) ∧ byteAt s (a0M s) = 48)) ↔ (W = [] ∨ (1 < W.length ∧ W.head? = some 48)) := by
    rw [hrun]
    cases W with
    | nil => simp
    | cons b W =>
      have e : s.drop (a0M s) = b :: (W ++ (s.drop (a0M s)).dropWhile isDig) := hsp
      obtain ⟨q1, q2⟩ := byteAt_drop e
      rw [q2]
      simp
      intro _
      exact is_lit b 48 (by decide)
  by_cases hC : W = [] ∨ (1 < W.length ∧ W.head? = some 48)
  · rw [if_pos (hc.2 hC)]
    cases fracL ((s.drop (a0M s)).dropWhile isDig) with
    | none => rfl
    | some q =>
      obtain ⟨P, r⟩ := q
      simp only
      cases expL r with
      | none => rfl
      | some up => simp only [endL]; rw [if_pos hC]
  · rw [if_neg (fun h => hC (hc.1 h))]
    cases fracL ((s.drop (a0M s)).dropWhile isDig) with
    | none => rfl
    | some q =>
      obtain ⟨P, r⟩ := q
      simp only
      cases expL r with
      | none => rfl
      | some up => simp only [endL]; rw [if_neg hC]
/-! ### Which texts are numbers -/
def numlD (b : UInt8) : Bool := isDig b || b == 45 || b == 43 || b == 46 || b == 101 || b == 69
theorem all_digs {l : List UInt8} (h : l.all isDig = true) : l.all numlD = true := by
  rw [List.all_eq_true] at h ⊢
  intro b hb; simp [numlD, h b hb]
theorem tw_digs (l : List UInt8) : (l.takeWhile isDig).all isDig = true := by
  rw [List.all_eq_true]; intro b hb
  induction l with
  | nil => cases hb
  | cons a l ih =>
    rw [List.takeWhile_cons] at hb
    split at hb
    · rcases List.mem_cons.1 hb with rfl | hb
      · assumption
      · exact ih hb
    · cases hb
theorem exp_num {r : List UInt8} {up : Int} (h : expL r = some up) : r.all numlD = true := by
  cases r with
  | nil => rfl
  | cons b t =>
    simp only [expL] at h
    split at h
    · cases h
    · rename_i h1
      split at h
      · cases h
      · rename_i h2
        simp only [not_or] at h2
        have h20 : (signL t).dropWhile isDig = [] := Classical.byContradiction h2.1
        have hs := split_dig (signL t)
        rw [h20, List.append_nil] at hs
        have h3 : (signL t).all isDig = true := by rw [hs]; exact tw_digs _
        have hb : numlD b = true := by
          by_cases e : b = 101
          · subst e; rfl
          · have : b = 69 := by
              apply Classical.byContradiction
              intro e2; exact h1 ⟨e, e2⟩
            subst this; rfl
        have ht : t.all numlD = true := by
          unfold signL at h3
          split at h3
          · rename_i hh
            cases t with
            | nil => rfl
            | cons c t =>
              simp only [List.head?_cons, Option.some.injEq, List.drop_succ_cons, List.drop_zero] at hh h3
              rw [List.all_cons, all_digs h3]
              rcases hh with rfl | rfl <;> rfl
          · exact all_digs h3
        rw [List.all_cons, hb, ht]; rfl
theorem frac_num {F P r : List UInt8} (h : fracL F = some (P, r)) (hr : r.all numlD = true) : F.all numlD = true := by
  unfold fracL at h
  split at h
  · rename_i hh
    split at h
    · cases h
    · cases h
      cases F with
      | nil => rfl
      | cons b F =>
        simp only [List.head?_cons, Option.some.injEq, List.drop_succ_cons, List.drop_zero] at hh hr ⊢
        subst hh
        rw [List.all_cons, split_dig F, List.all_append, hr, all_digs (tw_digs F)]
        rfl
  · cases h; exact hr
/-- A text that is a number, though it may be too big. -/
theorem parse_num {s : List UInt8} (h : (ParseL s).2 ≠ 4) : s.all numlD = true ∧ ∃ b t, s = b :: t ∧ (b = 45 ∨ isDig b = true) := by
  unfold ParseL at h
  cases hf : fracL ((bodyL s).dropWhile isDig) with
  | none => rw [hf] at h; exact absurd rfl h
  | some q =>
    obtain ⟨P, r⟩ := q
    rw [hf] at h
    simp only at h
    cases he : expL r with
    | none => rw [he] at h; exact absurd rfl h
    | some up =>
      rw [he] at h
      simp only [endL] at h
      split at h
      · exact absurd rfl h
      · rename_i hW
        simp only [not_or] at hW
        have h1 := frac_num hf (exp_num he)
        have h2 : (bodyL s).all numlD = true := by rw [split_dig (bodyL s), List.all_append, h1, all_digs (tw_digs _)]; rfl
        have h3 : ∃ b t, bodyL s = b :: t ∧ isDig b = true := by
          cases hb : bodyL s with
          | nil => rw [hb] at hW; exact absurd rfl hW.1
          | cons b t =>
            refine ⟨b, t, rfl, ?_⟩
            rw [hb, List.takeWhile_cons] at hW
            split at hW
            · assumption
            · exact absurd rfl hW.1
        cases s with
        | nil => obtain ⟨b, t, e, _⟩ := h3; simp [bodyL] at e
        | cons c s =>
          by_cases hc : c = 45
          · subst hc
            simp only [bodyL, List.head?_cons, if_true, List.drop_succ_cons, List.drop_zero] at h2
            exact ⟨by rw [List.all_cons, h2]; rfl, _, _, rfl, .inl rfl⟩
          · simp only [bodyL, List.head?_cons, Option.some.injEq, hc, if_false] at h2 h3
            obtain ⟨b, t, e, hd⟩ := h3
            cases e
            exact ⟨h2, _, _, rfl, .inr hd⟩
end Go.Proofs.YtdlejiiiifhiiaaGreatDoor
/-
  OUR OWN LAYER, 24: rows that are begun within a box.
-/
namespace Go.Proofs.YtdlejiiiifhiiaaGreatDoor.Sy
open Go
section
variable {P : Program} {T : Tab} {G : Glob} {Q : Exit → St → Prop} {st st' : St}
theorem Turned.refl (w : World) (b : Nat) : Turned w w b := ⟨rfl, rfl, rfl, rfl, fun _ _ => rfl⟩
theorem Rel.beginBox {c : Ctx} {M : FMap} {μ : Mu} {st : St} {tmps : Array Value} {w : World} (r : Rel c M μ st tmps w) {id k j : Nat} {e : TypeId} {cells : List V} (hb : boxOf id st.H = some (.vars e cells)) (hj : cells[j]? = some .nilsl)
    (hf : st.fresh k = true) (e' : TypeId) (sz : Nat) : ∃ μ', Rel c M μ' { st with H := setBox id (.vars e (cells.set j (.ms k))) ((k, .row e' sz []) :: st.H) } tmps w := by
  have hm := boxOf_mem hb
  have hk : keyIn id st.H = true := keyIn_iff.2 ⟨_, hm⟩
  have hne : id ≠ k := by
    rintro rfl
    have := (St.fresh_spec hf).2.2.2
    rw [hk] at this; cases this
  have r1 := r.adopt (l := ⟨none, .slice none 0 0⟩) hf (fun b hb => by cases hb) (bx := .row e' sz []) (.rowN (by rw [upd_same]) (by rw [upd_same]))
  have hbx := r1.box id _ (List.mem_cons_of_mem _ hm)
  cases hbx with
  | @vars _ _ b arr h0 hh hs ho hc =>
  refine ⟨_, r1.write (id := id) (b := b) (w' := w) (bx := .vars e (cells.set j (.ms k))) (by simp [keyIn, hk]) h0 (Turned.refl w b) (.vars h0 hh (by simpa using hs) ho fun i u x hu hx => ?_)⟩
  rw [List.getElem?_set] at hx
  split at hx
  · rename_i hji
    subst hji
    split at hx
    · cases hx
      have := hc j u .nilsl hu hj
      cases this
      exact .ms (by rw [upd_same]) rfl
    · cases hx
  · exact hc i u x hu hx
theorem AW.beginBox {c : Code} (id k j : Nat) (e' : TypeId) (sz : Nat) {e : TypeId} {cells : List V} (hb : boxOf id st.H = some (.vars e cells)) (hj : cells[j]? = some .nilsl) (hf : st.fresh k = true)
    (h : ({ st with H := setBox id (.vars e (cells.set j (.ms k))) ((k, .row e' sz []) :: st.H) } : St) = st') (k : AW P G c Q st') : AW P G c Q st := fun x M μ tmps w hg r => by
  obtain ⟨μ', r'⟩ := r.beginBox hb hj hf e' sz
  exact k x M μ' tmps w hg (h ▸ r')
theorem AOpsO.beginBox {ops : Array Oper} {l : List Oper} {orc : List PD} (id k j : Nat) (e' : TypeId) (sz : Nat) {e : TypeId} {cells : List V} (hb : boxOf id st.H = some (.vars e cells)) (hj : cells[j]? = some .nilsl) (hf : st.fresh k = true)
    (h : ({ st with H := setBox id (.vars e (cells.set j (.ms k))) ((k, .row e' sz []) :: st.H) } : St) = st') (k : AOpsO P G ops Q l st' orc) : AOpsO P G ops Q l st orc := fun x M μ tmps w hg r => by
  obtain ⟨μ', r'⟩ := r.beginBox hb hj hf e' sz
  exact k x M μ' tmps w hg (h ▸ r')
/-- Fewer boxes are told to lie where they lay. -/
theorem AW.pinsTo {c : Code} (ps : List Nat) (hs : ∀ i ∈ ps, i ∈ st.pins) (h : ({ st with pins := ps } : St) = st') (k : AW P G c Q st') : AW P G c Q st := fun x M μ tmps w hg r =>
  k x M μ tmps w hg (h ▸ ⟨r.mem, r.ext, r.old, r.slots, fun i hi => r.pins i (hs i hi), r.box, r.nodup, r.inj, r.own, r.size, r.below⟩)
/-- An operation under a guard that is so, whose effect is told apart. -/
theorem AOpsO.stepKIf (ks : List Nat) (d : Nat) {orc : List PD} {ops : Array Oper} {o : Oper} {rest : List Oper} {x : V} {st1 : St} {j : Nat} {pol : Bool} (hgd : o.guard = some (j, pol)) (hd : (ops[j]?).bind (·.dst) = some d)
    (h : Yields P G o st x st1) (hb : decide (d < st.tmps.length) = true ∧ V.guards pol (st.tmps.getD d .dead) = some true) (hk : (st1.put o.dst (.when true x)).keep ks = st') (k : AOpsO P G ops Q rest st' orc) : AOpsO P G ops Q (o :: rest) st orc :=
  AOps.stepIfT hgd hd (of_decide_eq_true hb.1) hb.2 h (AOps.keep ks (hk ▸ k))
theorem AW.fillE {c : Code} (id : Nat) (ns : List (Option Nat)) (h : st.fill id ns = st') (k : AW P G c Q st') : AW P G c Q st := fun x M μ tmps w hg r => k x M μ tmps w hg (h ▸ r.fill id ns)
end
end Go.Proofs.YtdlejiiiifhiiaaGreatDoor.Sy
namespace Go.Proofs.YtdlejiiiifhiiaaGreatDoor
open Sy Go
set_option maxRecDepth 100000
set_option linter.unusedSimpArgs false
set_option linter.unusedVariables false
variable {G : Glob}

def hasPre (s p : List UInt8) : Bool := decide (p.length ≤ s.length) && decide (s.take p.length = p)
@[simp] theorem sHasPrefix_ev (s p : List UInt8) : AFn Tryz.prog G 73 [.str s, .str p] (.bool (hasPre s p)) := by
  refine AFn.intro tok Tryz.func73 (by kernel_rfl) rfl ?_
  simp only [Tryz.f73, St.start]
  refine AW.seqRun tok [] (by intro C; conv => lhs; simp) trivial ?_ -- r0 {}
  refine AW.seqRun tok [] (by intro C; conv => lhs; simp) (by simp +contextual) ?_ -- r1 {}
  exact AW.ret ⟨.inr rfl, _, _, by (conv => lhs; simp), trivial, by simp [hasPre]⟩
@[simp] theorem HasPrefix_ev (s p : List UInt8) : AFn Tryz.prog G 47 [.str s, .str p] (.bool (hasPre s p)) := by
  refine AFn.intro tok Tryz.func47 (by kernel_rfl) rfl ?_
  simp only [Tryz.f47, St.start]
  refine AW.seqRun tok [] (by intro C; conv => lhs; simp) trivial ?_ -- r0 {}
  refine AW.seqRun tok [.tup [.str s, .str p], .bool (hasPre s p)] (by intro C; conv => lhs; simp) (by simp) ?_ -- r1 {}
  exact AW.ret ⟨.inr rfl, _, _, by (conv => lhs; simp), trivial, by simp⟩
def cutPre (s p : List UInt8) : List UInt8 := if hasPre s p then s.drop p.length else s
@[simp] theorem sCutPrefix_ev (s p : List UInt8) : AFn Tryz.prog G 93 [.str s, .str p] (.tup [.str (cutPre s p), .bool (hasPre s p)]) := by
  refine AFn.intro tok Tryz.func93 (by kernel_rfl) rfl ?_
  simp only [Tryz.f93, St.start]
  refine AW.seqRun tok [] (by intro C; conv => lhs; simp) trivial ?_ -- r0 {}
  refine AW.seq ?_
  refine AW.seqRun tok [.tup [.str s, .str p], .bool (hasPre s p)] (by intro C; conv => lhs; simp) (by simp) ?_ -- r1 {t8:CALL call f38(t6, t7) args,res}
  refine AW.cond (c := .tmp 9) (by conv => lhs; simp) trivial ?_ ?_
  · intro h1
    simp at h1
    refine AW.seqRun tok [] (by intro C; conv => lhs; simp) trivial ?_ -- r2 {}
    exact AW.ret ⟨.inr rfl, _, _, by (conv => lhs; simp), trivial, by simp [cutPre, h1]⟩
  · intro h1
    simp at h1
    refine AW.skip ?_
    refine AW.seqRun tok [] (by intro C; conv => lhs; simp) (by simp [hasPre] at h1 ⊢; omega) ?_ -- r3 {}
    exact AW.ret ⟨.inr rfl, _, _, by (conv => lhs; simp), trivial, by simp [cutPre, h1]⟩
@[simp] theorem CutPrefix_ev (s p : List UInt8) : AFn Tryz.prog G 68 [.str s, .str p] (.tup [.str (cutPre s p), .bool (hasPre s p)]) := by
  refine AFn.intro tok Tryz.func68 (by kernel_rfl) rfl ?_
  simp only [Tryz.f68, St.start]
  refine AW.seqRun tok [] (by intro C; conv => lhs; simp) trivial ?_ -- r0 {}
  refine AW.seqRun tok [.tup [.str s, .str p], .tup [.str (cutPre s p), .bool (hasPre s p)]] (by intro C; conv => lhs; simp) (by simp) ?_ -- r1 {}
  exact AW.ret ⟨.inr rfl, _, _, by (conv => lhs; simp), trivial, by simp⟩

theorem ext68 : IsExt Tryz.prog 120 Extern.BytealgIndexByte.indexByte := fun args w => run_callFunc_extern Tryz.func120 (by kernel_rfl) (by kernel_rfl) (by kernel_rfl) (by kernel_rfl) args w
@[simp] theorem sIndexByte_ev (s : List UInt8) (n : Int) : AFn Tryz.prog G 117 [.str s, .int .u8 n] (.int .i64 (Lib.indexByte s n.toNat.toUInt8)) := by
  refine AFn.intro tok Tryz.func117 (by kernel_rfl) rfl ?_
  simp only [Tryz.f117, St.start]
  refine AW.seqRun tok [] (by intro C; conv => lhs; simp) trivial ?_ -- r0 {}
  refine AW.seqRunX tok 2 [] [] rfl rfl (by intro C; conv => lhs; simp) trivial (y_indexByte (s := s) (n := n) (p := True) (q := True) (r := True) ext68 rfl (by simp) trivial (by simp) trivial (by simp) trivial) (by intro C; conv => lhs; simp) trivial ?_
  exact AW.ret ⟨.inr rfl, _, _, by (conv => lhs; simp), trivial, by simp⟩
@[simp] theorem IndexByte_ev (s : List UInt8) (n : Int) : AFn Tryz.prog G 107 [.str s, .int .u8 n] (.int .i64 (Lib.indexByte s n.toNat.toUInt8)) := by
  refine AFn.intro tok Tryz.func107 (by kernel_rfl) rfl ?_
  simp only [Tryz.f107, St.start]
  refine AW.seqRun tok [] (by intro C; conv => lhs; simp) trivial ?_ -- r0 {}
  refine AW.seqRun tok [.tup [.str s, .int .u8 n], .int .i64 (Lib.indexByte s n.toNat.toUInt8)] (by intro C; conv => lhs; simp) (by simp) ?_ -- r1 {}
  exact AW.ret ⟨.inr rfl, _, _, by (conv => lhs; simp), trivial, by simp⟩
end Go.Proofs.YtdlejiiiifhiiaaGreatDoor
namespace Go.Proofs.YtdlejiiiifhiiaaGreatDoor
open Sy Go
set_option maxRecDepth 100000
set_option linter.unusedSimpArgs false
set_option linter.unusedVariables false
variable {G : Glob}

def asF (cs : List UInt8) (i : Nat) : Bool := cs.any fun b => b.toNat == i
theorem asF_snoc (cs : List UInt8) (c : UInt8) (n : Nat) : rowP n (fun k => decide (k = c.toNat) || asF cs k) = rowP n (asF (cs ++ [c])) := rowP_congr fun i _ => by
  by_cases h : i = c.toNat
  · simp [asF, h]
  · simp [asF, h, Ne.symm h]

def asS (cs : List UInt8) (a : Nat) : St := ⟨[.p (.str cs), .dead, .ptr 2 0, .dead, .p (.int .i64 a)] ++ List.replicate 16 .dead, [], [(2, .vars 87 (pcells (rowP 256 (asF (cs.take a)))))], 0⟩
theorem makeASCIISet_ev (cs : List UInt8) (hcs : ∀ b ∈ cs, b.toNat < 128) : AFn Tryz.prog G 54 [.str cs] (.tup [.agg (rowP 256 (asF cs)), .bool true]) := by
  refine AFn.intro tok Tryz.func54 (by kernel_rfl) rfl ?_
  simp only [Tryz.f54, St.start]
  refine AW.strFact (i := 0) rfl ?_
  intro hlen
  refine AW.seqRun tok [] (by intro C; conv => lhs; simp) (by simp) ?_ -- r0 {}
  refine AW.seq ?_
  refine AW.seqRun tok [] (by intro C; conv => lhs; simp) trivial ?_ -- r1 {}
  refine AW.block ?_
  -- LOOP
  refine AW.loop (α := Nat) (fun a => a ≤ cs.length) (fun a => asS cs a) (fun a => cs.length - a) 0 (by omega) ⟨by simp [asS], rfl, by simp [asS, reps_row]; rfl, by simp [asS]⟩ ?_
  intro a hI
  simp only [asS]
  refine AW.seq ?_
  refine AW.seqRun tok [] (by intro C; conv => lhs; simp) trivial ?_ -- r2 {}
  refine AW.cond (c := .tmp 9) (by conv => lhs; simp) trivial ?_ ?_
  · intro h1
    simp at h1
    obtain ⟨c, hc⟩ : ∃ c, cs[a]? = some c := ⟨cs[a], by simp [h1]⟩
    have hclt := hcs c (List.mem_of_getElem? hc)
    have hst : asF (cs.take (a + 1)) = asF (cs.take a ++ [c]) := by rw [List.take_add_one, hc]; rfl
    refine AW.skip ?_
    refine AW.seq ?_
    refine AW.block ?_
    refine AW.seqRun tok [.int .u8 c.toNat] (by intro C; conv => lhs; simp) (by simp [hc]) ?_ -- r4 {t14:sidx}
    refine AW.seq ?_
    refine AW.seqRun tok [] (by intro C; conv => lhs; simp) trivial ?_ -- r5 {}
    refine AW.cond (c := .tmp 16) (by conv => lhs; simp) trivial ?_ ?_
    · intro h2
      simp at h2
      omega
    · intro h2
      simp at h2
      refine AW.skip ?_
      refine AW.run tok [] (by intro C; conv => lhs; simp) (by omega) ?_ -- r7 {t19:index; storerow e0 e1}
      refine AW.run tok [] (by intro C; conv => lhs; simp) (by omega) ?_ -- r3 {}
      exact ⟨a + 1, by omega, by omega, by simp [asS], rfl, by simp [asS, hst]; exact congrArg pcells (asF_snoc _ _ _).symm, by simp [asS]⟩ -- END OF ROUND
  · intro h1
    simp at h1
    have hall : cs.take a = cs := List.take_of_length_le h1
    rw [hall]
    refine AW.exit ?_ -- exit 0
    simp
    refine AW.seqRun tok [] (by intro C; conv => lhs; simp) (by simp) ?_ -- r8 {}
    exact AW.ret ⟨.inr rfl, _, _, by (conv => lhs; simp), by simp, by simp⟩

theorem contains_ev (F : Nat → Bool) (n : Int) (h0 : 0 ≤ n) (h1 : n < 256) : AX Tryz.prog G 80 [.ptr 5 0, .p (.int .u8 n)] [(5, .vars 87 (pcells (rowP 256 F)))] (.p (.bool (F n.toNat))) [5] [(5, .vars 87 (pcells (rowP 256 F)))] := by
  refine AX.intro tok 2000 Tryz.func80 (by kernel_rfl) rfl ?_
  simp only [Tryz.f80, St.startX]
  refine AW.seqRun tok [] (by intro C; conv => lhs; simp) trivial ?_ -- r0 {}
  refine AW.seqRun tok [.bool (F n.toNat)] (by intro C; conv => lhs; simp) (by simp [rowP_get (show n.toNat < 256 by omega)]; omega) ?_ -- r1 {t8:index; t9:load}
  exact AW.ret ⟨.inr rfl, _, _, by (conv => lhs; simp), trivial, by simp, by simp, by simp, by simp⟩

def trimL (F : Nat → Bool) (s : List UInt8) : List UInt8 := s.dropWhile fun b => F b.toNat
def trimR (F : Nat → Bool) (s : List UInt8) : List UInt8 := (s.reverse.dropWhile fun b => F b.toNat).reverse
def tlS (r : List UInt8) (F : Nat → Bool) : St := ⟨[.p (.str r), .ptr 5 0] ++ List.replicate 14 .dead, [5], [(5, .vars 87 (pcells (rowP 256 F)))], 1000⟩
theorem trimLeftASCII_ev (F : Nat → Bool) (s : List UInt8) : AX Tryz.prog G 55 [.p (.str s), .ptr 5 0] [(5, .vars 87 (pcells (rowP 256 F)))] (.p (.str (trimL F s))) [5] [(5, .vars 87 (pcells (rowP 256 F)))] := by
  refine AX.intro tok 1000 Tryz.func55 (by kernel_rfl) rfl ?_
  simp only [Tryz.f55, St.startX]
  refine AW.seqRun tok [] (by intro C; conv => lhs; simp) trivial ?_ -- r0 {}
  refine AW.seq ?_
  refine AW.block ?_
  -- LOOP
  refine AW.loop (α := List UInt8) (fun r => trimL F r = trimL F s) (fun r => tlS r F) (fun r => r.length) s rfl ⟨by simp [tlS], rfl, by simp [tlS], by simp [tlS]⟩ ?_
  intro r hI
  simp only [tlS]
  refine AW.seq ?_
  refine AW.seqRun tok [] (by intro C; conv => lhs; simp) trivial ?_ -- r1 {}
  refine AW.cond (c := .tmp 7) (by conv => lhs; simp) trivial ?_ ?_
  · intro h1
    simp at h1
    obtain ⟨b, r, rfl⟩ : ∃ b r', r = b :: r' := by
      cases r with
      | nil => simp at h1
      | cons b r => exact ⟨b, r, rfl⟩
    have hb : b.toNat < 256 := b.toNat_lt
    refine AW.skip ?_
    refine AW.block ?_
    refine AW.seq ?_
    refine AW.seqRunX tok 3 [.int .u8 b.toNat] [] rfl rfl (by intro C; conv => lhs; simp) (by simp) (y_cx rfl (contains_ev F b.toNat (by omega) (by omega)) (by simp)) (by intro C; conv => lhs; simp) trivial ?_ -- r2 {t10:sidx; t11:CALL call f65(t8, t10) args,res}
    refine AW.cond (c := .tmp 12) (by conv => lhs; simp) trivial ?_ ?_
    · intro h2
      simp at h2
      refine AW.exit ?_ -- exit 0
      simp
      refine AW.seqRun tok [] (by intro C; conv => lhs; simp) trivial ?_ -- r4 {}
      exact AW.ret ⟨.inr rfl, _, _, by (conv => lhs; simp), trivial, by rw [← hI]; simp [trimL, h2], by simp, by simp, by simp⟩
    · intro h2
      simp at h2
      refine AW.skip ?_
      refine AW.run tok [] (by intro C; conv => lhs; simp) (by omega) ?_ -- r3 {}
      exact ⟨r, by rw [← hI]; simp [trimL, h2], by simp, by simp [tlS], rfl, by simp [tlS], by simp [tlS]⟩ -- END OF ROUND
  · intro h1
    simp at h1
    subst h1
    refine AW.exit ?_ -- exit 0
    simp
    refine AW.seqRun tok [] (by intro C; conv => lhs; simp) trivial ?_ -- r4 {}
    exact AW.ret ⟨.inr rfl, _, _, by (conv => lhs; simp), trivial, by rw [← hI]; simp [trimL], by simp, by simp, by simp⟩

theorem trimRightASCII_ev (F : Nat → Bool) (s : List UInt8) : AX Tryz.prog G 56 [.p (.str s), .ptr 5 0] [(5, .vars 87 (pcells (rowP 256 F)))] (.p (.str (trimR F s))) [5] [(5, .vars 87 (pcells (rowP 256 F)))] := by
  refine AX.intro tok 1000 Tryz.func56 (by kernel_rfl) rfl ?_
  simp only [Tryz.f56, St.startX]
  refine AW.strFact (i := 0) rfl ?_
  intro hlen
  refine AW.seqRun tok [] (by intro C; conv => lhs; simp) trivial ?_ -- r0 {}
  refine AW.seq ?_
  refine AW.block ?_
  -- LOOP
  refine AW.loop (α := List UInt8) (fun r => trimR F r = trimR F s ∧ r.length ≤ s.length) (fun r => ⟨[.p (.str r), .ptr 5 0] ++ List.replicate 20 .dead, [5], [(5, .vars 87 (pcells (rowP 256 F)))], 1000⟩) (fun r => r.length) s ⟨rfl, Nat.le_refl _⟩ ⟨by simp, rfl, by simp, by simp⟩ ?_
  rintro r ⟨hI, hrl⟩
  refine AW.seq ?_
  refine AW.seqRun tok [] (by intro C; conv => lhs; simp) trivial ?_ -- r1 {}
  refine AW.cond (c := .tmp 7) (by conv => lhs; simp) trivial ?_ ?_
  · intro h1
    simp at h1
    obtain ⟨r, b, rfl⟩ : ∃ r' b, r = r' ++ [b] := ⟨r.dropLast, r.getLast (by rintro rfl; simp at h1), (List.dropLast_concat_getLast _).symm⟩
    have hb : b.toNat < 256 := b.toNat_lt
    simp at hrl
    refine AW.skip ?_
    refine AW.block ?_
    refine AW.seq ?_
    refine AW.seqRunX tok 6 [.int .u8 b.toNat] [] rfl rfl (by intro C; conv => lhs; simp) (by omega) (y_cx rfl (contains_ev F b.toNat (by omega) (by omega)) (by simp)) (by intro C; conv => lhs; simp) trivial ?_ -- r2 {t13:sidx; t14:CALL call f65(t8, t13) args,res}
    refine AW.cond (c := .tmp 15) (by conv => lhs; simp) trivial ?_ ?_
    · intro h2
      simp at h2
      refine AW.exit ?_ -- exit 0
      simp
      refine AW.seqRun tok [] (by intro C; conv => lhs; simp) trivial ?_ -- r4 {}
      exact AW.ret ⟨.inr rfl, _, _, by (conv => lhs; simp), trivial, by rw [← hI]; simp [trimR, h2], by simp, by simp, by simp⟩
    · intro h2
      simp at h2
      refine AW.skip ?_
      refine AW.run tok [] (by intro C; conv => lhs; simp) (by omega) ?_ -- r3 {}
      exact ⟨r, ⟨by rw [← hI]; simp [trimR, h2], by omega⟩, by simp, by simp, rfl, by simp, by simp⟩ -- END OF ROUND
  · intro h1
    simp at h1
    subst h1
    refine AW.exit ?_ -- exit 0
    simp
    refine AW.seqRun tok [] (by intro C; conv => lhs; simp) trivial ?_ -- r4 {}
    exact AW.ret ⟨.inr rfl, _, _, by (conv => lhs; simp), trivial, by rw [← hI]; simp [trimR], by simp, by simp, by simp⟩

def trimM (s cs : List UInt8) : List UInt8 := trimL (asF cs) (trimR (asF cs) s)
theorem Trim_ev (s cs : List UInt8) (h2 : 2 ≤ cs.length) (hcs : ∀ b ∈ cs, b.toNat < 128) : AFn Tryz.prog G 32 [.str s, .str cs] (.str (trimM s cs)) := by
  refine AFn.intro tok Tryz.func32 (by kernel_rfl) rfl ?_
  simp only [Tryz.f32, St.start]
  have hne : cs ≠ [] := by rintro rfl; simp at h2
  refine AW.seqRun tok [] (by intro C; conv => lhs; simp) trivial ?_ -- r0 {}
  refine AW.seq ?_
  refine AW.seqRun tok [] (by intro C; conv => lhs; simp) (by simp +contextual) ?_ -- r1
  refine AW.cond (c := .tmp 12) (by conv => lhs; simp) trivial ?_ ?_
  · intro h3
    simp [hne] at h3
    subst h3
    refine AW.seqRun tok [] (by intro C; conv => lhs; simp) trivial ?_ -- r2
    exact AW.ret ⟨.inr rfl, _, _, by (conv => lhs; simp), trivial, by simp [trimM, trimL, trimR]⟩
  · intro h3
    simp [hne] at h3
    refine AW.skip ?_
    refine AW.seq ?_
    refine AW.seqRun tok [.int .u8 0] (by intro C; conv => lhs; simp) (by simp +contextual; omega) ?_ -- r3
    refine AW.cond (c := .tmp 21) (by conv => lhs; simp) trivial ?_ ?_
    · intro h4
      simp at h4
      omega
    · intro h4
      refine AW.skip ?_
      refine AW.seq ?_
      refine AW.seqRun tok [.tup [.str cs], .tup [.agg (rowP 256 (asF cs)), .bool true]] (by intro C; conv => lhs; simp) (by simp [makeASCIISet_ev cs hcs]) ?_ -- r5
      refine AW.seqRun tok [] (by intro C; conv => lhs; simp) trivial ?_ -- r6
      refine AW.cond (c := .tmp 34) (by conv => lhs; simp) trivial ?_ ?_
      · intro _
        refine AW.seq (AW.region (AOps.pref tok 1 [] (by intro C; conv => lhs; simp) trivial ?_))
        simp only [List.drop_succ_cons, List.drop_zero]
        refine AOps.step rfl (y_cx rfl (trimRightASCII_ev (asF cs) s) (by simp)) ?_
        refine AOps.step rfl (y_cx rfl (trimLeftASCII_ev (asF cs) (trimR (asF cs) s)) (by simp)) ?_
        refine AOps.all tok [] (by intro C; conv => lhs; simp) trivial ?_
        exact AW.ret ⟨.inr rfl, _, _, by (conv => lhs; simp), trivial, by simp [trimM]⟩
      · intro h; simp at h
end Go.Proofs.YtdlejiiiifhiiaaGreatDoor
namespace Go.Proofs.YtdlejiiiifhiiaaGreatDoor
open Sy Go
set_option maxRecDepth 100000
set_option maxHeartbeats 4000000
set_option linter.unusedSimpArgs false
set_option linter.unusedVariables false
variable {G : Glob}
theorem getD_get {s : List UInt8} {k : Nat} (h : k < s.length) : s[k]? = some (s.getD k 0) := by simp [List.getD_eq_getElem?_getD, h]
theorem trimLeftByte_ev (s : List UInt8) (c : UInt8) : AFn Tryz.prog G 52 [.str s, .int .u8 c.toNat] (.str (s.dropWhile (fun b => b == c))) := by
  refine AFn.introU tok Tryz.func52 (by kernel_rfl) rfl rfl ?_
  simp only [Tryz.f52, enumA, List.map_cons, List.map_nil]
  refine AW.seqRegionO [] ?_
  refine s1 tok [0, 1] ?_
  refine AOpsO.nil ?_
  refine AW.seq ?_
  refine AW.block ?_
  refine AW.loop (α := List UInt8) (fun r => r.dropWhile (fun b => b == c) = s.dropWhile (fun b => b == c)) (fun r => ⟨upds 17 [(0, .p (.str r)), (1, .p (.int .u8 c.toNat))], [], [], 0⟩) (fun r => r.length) (s) rfl ⟨upds_le (by simp), rfl, by simp, by simp⟩ ?_
  rintro r hr
  have hix : 0 < r.length → r[0]? = some (r.getD 0 0) := fun h => getD_get h
  refine AW.seq ?_
  refine AW.seqRegionO [.int .u8 (r.getD 0 0).toNat] ?_
  refine s1 tok [0, 1, 5] ?_
  refine s1 tok [0, 1, 6] ?_ (hv := by first | with_reducible exact True.intro | (first | exact fun h => ⟨h, _, hix (by omega), rfl⟩ | simp; done) | omega | simp | (simp; omega) | (simp +contextual; omega))
  refine s1 tok [0, 1, 7] ?_ (hv := by first | with_reducible exact True.intro | (first | exact fun h => ⟨h, _, hix (by omega), rfl⟩ | simp; done) | omega | simp | (simp; omega) | (simp +contextual; omega))
  refine s1 tok [0, 1, 8] ?_
  refine s2 tok [0, 1, 8, 9] 8 rfl rfl ?_
  refine s2 tok [0, 1, 8, 10] 8 rfl rfl ?_ (hv := by first | with_reducible exact True.intro | (first | exact fun h => ⟨h, _, hix (by omega), rfl⟩ | simp; done) | omega | simp | (simp; omega) | (simp +contextual; omega))
  refine s2 tok [0, 1, 8, 10, 11] 8 rfl rfl ?_
  refine s2 tok [0, 1, 8, 12] 8 rfl rfl ?_ (hv := by first | with_reducible exact True.intro | (first | exact fun h => ⟨h, _, hix (by omega), rfl⟩ | simp; done) | omega | simp | (simp; omega) | (simp +contextual; omega))
  refine s1 tok [0, 1, 13] ?_ (hv := by first | with_reducible exact True.intro | (first | exact fun h => ⟨h, _, hix (by omega), rfl⟩ | simp; done) | omega | simp | (simp; omega) | (simp +contextual; omega))
  refine AOpsO.nil ?_
  refine AW.cond (c := .tmp 13) (by conv => lhs; simp) trivial ?_ ?_
  · intro h13
    try simp at h13
    obtain ⟨b, r, rfl⟩ : ∃ b r', r = b :: r' := by
      cases r with
      | nil => simp at h13
      | cons b r => exact ⟨b, r, rfl⟩
    have hb : b = c := UInt8.toNat_inj.1 (by have := h13.2; simp at this; omega)
    subst hb
    have hr2 : List.dropWhile (fun b' => b' == b) r = List.dropWhile (fun b' => b' == b) s := by rw [← hr]; simp
    refine AW.skip ?_
    refine AW.block ?_
    refine AW.regionO [] ?_
    refine s1 tok [1, 14] ?_
    refine s1 tok [1, 15] ?_
    refine s1 tok [0, 1] ?_
    refine AOpsO.nil ?_
    exact ⟨r, hr2, by simp, upds_le (by simp), rfl, by simp, by simp⟩
  · intro h13
    try simp at h13
    have hr3 : s.dropWhile (fun b => b == c) = r := by
      rw [← hr]
      cases r with
      | nil => rfl
      | cons b r =>
        have hb : b ≠ c := by rintro rfl; simp at h13
        simp [hb]
    rw [hr3]
    refine AW.exit ?_
    simp
    refine AW.seqRegionO [] ?_
    refine s1 tok [16] ?_
    refine s1 tok [4] ?_
    refine AOpsO.nil ?_
    exact AW.ret ⟨.inr rfl, _, _, by (conv => lhs; simp), trivial, by simp⟩
theorem suffix_last (s : List UInt8) (c : UInt8) : (decide (1 ≤ (s.length : Int)) && decide (List.drop (s.length - 1) s = [c])) = decide (s.getLast? = some c) := by
  by_cases h : s = []
  · subst h; simp
  · obtain ⟨a, b, rfl⟩ : ∃ a b, s = a ++ [b] := ⟨s.dropLast, s.getLast h, (List.dropLast_concat_getLast h).symm⟩
    rw [Bool.eq_iff_iff]
    simp
    intro _; omega
theorem sHasSuffix_ev (s : List UInt8) (c : UInt8) : AFn Tryz.prog G 119 [.str s, .str [c]] (.bool (decide (s.getLast? = some c))) := by
  refine AFn.introU tok Tryz.func119 (by kernel_rfl) rfl rfl ?_
  simp only [Tryz.f119, enumA, List.map_cons, List.map_nil]
  refine AW.strFactU (i := 0) rfl (by decide) ?_
  intro hlen
  have hsuf : (decide (1 ≤ (s.length : Int)) && decide (List.drop (s.length - 1) s = [c])) = decide (s.getLast? = some c) := suffix_last s c
  refine AW.seqRegionO [] ?_
  refine s1 tok [0, 1] ?_
  refine AOpsO.nil ?_
  refine AW.seqRegionO [] ?_
  refine s1 tok [0, 1, 5] ?_
  refine s1 tok [0, 1, 6] ?_
  refine s1 tok [0, 1, 6, 7] ?_
  refine s1 tok [0, 1, 6, 8] ?_
  refine s1 tok [0, 1, 9] ?_
  refine s1 tok [0, 1, 10] ?_
  refine s2 tok [0, 1, 10, 11] 10 rfl rfl ?_
  refine s2 tok [1, 10, 11, 12] 10 rfl rfl ?_
  refine s2 tok [1, 10, 11, 13] 10 rfl rfl ?_
  refine s2 tok [1, 10, 11, 13, 14] 10 rfl rfl ?_
  refine s2 tok [1, 10, 11, 13, 15] 10 rfl rfl ?_
  refine s2 tok [1, 10, 11, 16] 10 rfl rfl ?_
  refine s2 tok [1, 10, 17] 10 rfl rfl ?_
  refine s2 tok [10, 17, 18] 10 rfl rfl ?_
  refine s2 tok [10, 19] 10 rfl rfl ?_
  refine s1 tok [20] ?_
  refine s1 tok [4] ?_
  refine AOpsO.nil ?_
  exact AW.ret ⟨.inr rfl, _, _, by (conv => lhs; simp), trivial, by simp [hsuf]⟩
theorem HasSuffix_ev (s : List UInt8) (c : UInt8) : AFn Tryz.prog G 111 [.str s, .str [c]] (.bool (decide (s.getLast? = some c))) := by
  refine AFn.introU tok Tryz.func111 (by kernel_rfl) rfl rfl ?_
  simp only [Tryz.f111, enumA, List.map_cons, List.map_nil]
  refine AW.seqRegionO [] ?_
  refine s1 tok [0, 1] ?_
  refine AOpsO.nil ?_
  refine AW.seqRegionO [.nilp, .bool (decide (s.getLast? = some c))] ?_
  refine s1 tok [1, 5] ?_
  refine s1 tok [5, 6] ?_
  refine s1 tok [7] ?_ (hv := by first | with_reducible exact True.intro | (exact sHasSuffix_ev s c; done) | omega | simp | (simp; omega) | (simp +contextual; omega))
  refine s1 tok [4] ?_
  refine AOpsO.nil ?_
  exact AW.ret ⟨.inr rfl, _, _, by (conv => lhs; simp), trivial, by simp⟩
theorem TrimLeft1_ev (s : List UInt8) (c : UInt8) (hc : c.toNat < 128) : AFn Tryz.prog G 76 [.str s, .str [c]] (.str (s.dropWhile (fun b => b == c))) := by
  refine AFn.introU tok Tryz.func76 (by kernel_rfl) rfl rfl ?_
  simp only [Tryz.f76, enumA, List.map_cons, List.map_nil]
  refine AW.seqRegionO [] ?_
  refine s1 tok [0, 1] ?_
  refine AOpsO.nil ?_
  refine AW.seq ?_
  refine AW.seqRegionO [] ?_
  refine s1 tok [0, 1, 7] ?_
  refine s1 tok [0, 1, 8] ?_
  refine s1 tok [0, 1, 9] ?_
  refine s2 tok [0, 1, 9, 10] 9 rfl rfl ?_
  refine s2 tok [0, 1, 9, 11] 9 rfl rfl ?_
  refine s1 tok [0, 1, 12] ?_
  refine AOpsO.nil ?_
  refine AW.cond (c := .tmp 12) (by conv => lhs; simp) trivial ?_ ?_
  · intro h12
    try simp at h12
    subst h12
    refine AW.seqRegionO [] ?_
    refine s1 tok [13] ?_
    refine s1 tok [4] ?_
    refine AOpsO.nil ?_
    exact AW.ret ⟨.inr rfl, _, _, by (conv => lhs; simp), trivial, by simp⟩
  · intro h12
    try simp at h12
    refine AW.skip ?_
    refine AW.seq ?_
    refine AW.seqRegionO [.int .u8 c.toNat] ?_
    refine s1 tok [0, 1, 14] ?_
    refine s1 tok [0, 1, 15] ?_ (hv := by first | with_reducible exact True.intro | (simp; done) | omega | simp | (simp; omega) | (simp +contextual; omega))
    refine s1 tok [0, 1, 16] ?_ (hv := by first | with_reducible exact True.intro | (simp; done) | omega | simp | (simp; omega) | (simp +contextual; omega))
    refine s1 tok [0, 1, 17] ?_
    refine s2 tok [0, 1, 17, 18] 17 rfl rfl ?_
    refine s2 tok [0, 1, 17, 19] 17 rfl rfl ?_ (hv := by first | with_reducible exact True.intro | (simp; done) | omega | simp | (simp; omega) | (simp +contextual; omega))
    refine s2 tok [0, 1, 17, 20] 17 rfl rfl ?_ (hv := by first | with_reducible exact True.intro | (simp; done) | omega | simp | (simp; omega) | (simp +contextual; omega))
    refine s1 tok [0, 1, 21] ?_ (hv := by first | with_reducible exact True.intro | (simp; done) | omega | simp | (simp; omega) | (simp +contextual; omega))
    refine AOpsO.nil ?_
    refine AW.cond (c := .tmp 21) (by conv => lhs; simp) trivial ?_ ?_
    · intro h21
      try simp at h21
      refine AW.seqRegionO [.int .u8 c.toNat, .nilp, .str (s.dropWhile (fun b => b == c))] ?_
      refine s1 tok [1, 22] ?_
      refine s1 tok [22, 23] ?_
      refine s1 tok [22, 24] ?_ (hv := by first | with_reducible exact True.intro | (first | exact trimLeftByte_ev s c | simp; done) | omega | simp | (simp; omega) | (simp +contextual; omega))
      refine s1 tok [25] ?_ (hv := by first | with_reducible exact True.intro | (first | exact trimLeftByte_ev s c | simp; done) | omega | simp | (simp; omega) | (simp +contextual; omega))
      refine s1 tok [4] ?_
      refine AOpsO.nil ?_
      exact AW.ret ⟨.inr rfl, _, _, by (conv => lhs; simp), trivial, by simp⟩
    · intro h21
      try simp at h21
      omega
theorem TrimLeft_ev (s cs : List UInt8) (h2 : 2 ≤ cs.length) (hcs : ∀ b ∈ cs, b.toNat < 128) : AFn Tryz.prog G 76 [.str s, .str cs] (.str (trimL (asF cs) s)) := by
  refine AFn.introU tok Tryz.func76 (by kernel_rfl) rfl rfl ?_
  simp only [Tryz.f76, enumA, List.map_cons, List.map_nil]
  have hne : cs ≠ [] := by rintro rfl; simp at h2
  have hmk := makeASCIISet_ev (G := G) cs hcs
  refine AW.seqRegionO [] ?_
  refine s1 tok [0, 1] ?_
  refine AOpsO.nil ?_
  refine AW.seq ?_
  refine AW.seqRegionO [] ?_
  refine s1 tok [0, 1, 7] ?_
  refine s1 tok [0, 1, 8] ?_
  refine s1 tok [0, 1, 9] ?_
  refine s2 tok [0, 1, 9, 10] 9 rfl rfl ?_
  refine s2 tok [0, 1, 9, 11] 9 rfl rfl ?_
  refine s1 tok [0, 1, 12] ?_
  refine AOpsO.nil ?_
  refine AW.cond (c := .tmp 12) (by conv => lhs; simp) trivial ?_ ?_
  · intro h12
    try simp at h12
    simp [hne] at h12
    subst h12
    refine AW.seqRegionO [] ?_
    refine s1 tok [13] ?_
    refine s1 tok [4] ?_
    refine AOpsO.nil ?_
    exact AW.ret ⟨.inr rfl, _, _, by (conv => lhs; simp), trivial, by simp [trimL]⟩
  · intro h12
    try simp at h12
    refine AW.skip ?_
    refine AW.seq ?_
    refine AW.seqRegionO [.int .u8 0] ?_
    refine s1 tok [0, 1, 14] ?_
    refine s1 tok [0, 1, 15] ?_
    refine s1 tok [0, 1, 16] ?_
    refine s1 tok [0, 1, 17] ?_
    refine s2 tok [0, 1, 17, 18] 17 rfl rfl ?_
    refine s2 tok [0, 1, 17, 19] 17 rfl rfl ?_
    refine s2 tok [0, 1, 17, 20] 17 rfl rfl ?_
    refine s1 tok [0, 1, 21] ?_
    refine AOpsO.nil ?_
    refine AW.cond (c := .tmp 21) (by conv => lhs; simp) trivial ?_ ?_
    · intro h21
      try simp at h21
      omega
    · intro h21
      try simp at h21
      refine AW.skip ?_
      refine AW.seq ?_
      refine AW.seqRegionO [.nilp, .tup [.agg (rowP 256 (asF cs)), .bool true]] ?_
      refine s1 tok [0, 1, 27] ?_
      refine s1 tok [0, 1, 28] ?_ (hv := by first | with_reducible exact True.intro | (exact hmk; done) | omega | simp | (simp; omega) | (simp +contextual; omega))
      refine s1 tok [0, 1, 26] ?_
      refine s1 tok [0, 1, 26, 29] ?_
      refine s1 tok [0, 1, 29, 30] ?_
      refine s1 tok [0, 1, 5, 29, 30] ?_
      refine s1 tok [0, 1, 5, 30] ?_ (hv := by first | with_reducible exact True.intro | (exact hmk; done) | omega | simp | (simp; omega) | (simp +contextual; omega))
      refine s1 tok [0, 1, 5, 6] ?_
      refine AOpsO.nil ?_
      refine AW.seqRegionO [] ?_
      refine s1 tok [0, 1, 5, 31] ?_
      refine AOpsO.nil ?_
      refine AW.cond (c := .tmp 31) (by conv => lhs; simp) trivial ?_ ?_
      · intro h31
        try simp at h31
        refine AW.seqRegionO [] ?_
        refine s1 tok [5, 32] ?_
        refine AOpsO.stepK [33] (y_cx rfl (trimLeftASCII_ev (asF cs) s) (by simp)) (by conv => lhs; simp) rfl ?_
        refine s1 tok [4] ?_
        refine AOpsO.nil ?_
        exact AW.ret ⟨.inr rfl, _, _, by (conv => lhs; simp), trivial, by simp⟩
      · intro h31
        try simp at h31
end Go.Proofs.YtdlejiiiifhiiaaGreatDoor
/-
  OUR OWN LAYER: how contracts of the kit's shelf become ours; the tables of unicode/utf8.
-/
namespace Go.Proofs.YtdlejiiiifhiiaaGreatDoor
open Sy Go
namespace Sy
variable {P : Program} {G : Glob}
theorem AFn.of_calls {f : FuncId} {args : List PD} {r : PD} (hc : Callable P f) (h : ∀ (M : FMap) (w : World) (vs : Array Value), GOK G M → (∀ b o v, M b o = some v → w.cell? ⟨b, o, none⟩ = some v) → vs.size = args.length →
    (∀ (i : Nat) u d, vs[i]? = some u → args[i]? = some d → Rd M u d) → Calls P f vs w fun e w' => ∃ v, e = .returned v ∧ Rd M v r ∧ RowKit.Below w.heap.size w w') : AFn P G f args r := by
  refine ⟨hc, fun M w vs hg hmem hsz hrd => (h M w vs hg hmem hsz hrd).mono ?_⟩
  rintro e w' ⟨v, rfl, hv, hb⟩
  refine ⟨v, M, rfl, hv, fun b o u hu => ?_, fun _ _ _ h => h, fun _ _ _ => rfl, hb⟩
  have h1 := hmem b o u hu
  exact (World.cell?_of_block (w := w) (hb.block b (lt_of_cell h1))).trans h1
theorem callable_of {f : FuncId} {fn : Func} {c : Code} (hf : P.funcs[f]? = some fn) (hn : (fn.name == "runtime.NumGoroutine") = false) (hb : fn.body = some c) : Callable P f := ⟨fn, c, hf, hn, hb⟩
theorem arg_str {M : FMap} {vs : Array Value} {s : List UInt8} (hsz : vs.size = 1) (h : ∀ (i : Nat) u d, vs[i]? = some u → [PD.str s][i]? = some d → Rd M u d) : ∃ b : ByteArray, vs = #[.string b] ∧ b.data.toList = s ∧ b.size ≤ maxLen := by
  obtain ⟨l⟩ := vs
  match l, hsz with
  | [u], _ =>
    have := h 0 u (.str s) rfl rfl
    cases this with
    | @str b _ hs hm => exact ⟨b, rfl, hs, by rw [str_size hs]; exact hm⟩
/-- The tables of unicode/utf8. -/
def firstP : List PD := (List.range 256).map fun c => .int .u8 (Lib.firstT c)
def accP : List PD := (List.range 32).map fun i => .int .u8 (if i % 2 = 0 then Lib.accLo (i / 2) else Lib.accHi (i / 2))
def HasU8 (g3 g4 : Nat) (G : Glob) : Prop := G g3 = some firstP ∧ G g4 = some accP
theorem u8_tabs {g3 g4 : Nat} {M : FMap} {w : World} (hG : HasU8 g3 g4 G) (hg : GOK G M) (hmem : ∀ b o v, M b o = some v → w.cell? ⟨b, o, none⟩ = some v) : Lib.Utf8Tabs g3 g4 w := by
  have key : ∀ (g : Nat) (cs : List PD) (j : Nat) (n : Int), G g = some cs → cs[j]? = some (.int .u8 n) → w.cell? ⟨g, j, none⟩ = some (.int .u8 n) := by
    intro g cs j n h1 h2
    obtain ⟨h3, h4⟩ := hg g cs h1
    obtain ⟨u, hu, _⟩ := h3 j _ h2
    have := h4 j _ u h2 hu
    cases this
    exact hmem _ _ _ hu
  refine ⟨fun c hc => key _ _ _ _ hG.1 (by simp [firstP, hc]), fun i hi => ⟨key _ _ _ _ hG.2 ?_, key _ _ _ _ hG.2 ?_⟩⟩
  · simp [accP, show 2 * i < 32 by omega]
  · simp only [accP, List.getElem?_map, List.getElem?_range (show 2 * i + 1 < 32 by omega), Option.map_some]
    rw [if_neg (by omega), show (2 * i + 1) / 2 = i by omega]
def u8G (g3 g4 : Nat) : Glob := fun g => if g = g3 then some firstP else if g = g4 then some accP else none
theorem u8G_has {g3 g4 : Nat} (h : g4 ≠ g3) : HasU8 g3 g4 (u8G g3 g4) := ⟨by simp [u8G], by simp [u8G, h]⟩
theorem u8G_ok {g3 g4 : Nat} {W : World} (h : Lib.Utf8Tabs g3 g4 W) (hne : g4 ≠ g3) : GOK (u8G g3 g4) (memOf W) := by
  have one : ∀ (g j : Nat) (cs : List PD), (∀ (j : Nat) d, cs[j]? = some d → ∃ n : Int, d = .int .u8 n ∧ 0 ≤ n ∧ n ≤ 255 ∧ W.cell? ⟨g, j, none⟩ = some (.int .u8 n)) →
      (∀ (j : Nat) d, cs[j]? = some d → ∃ u, memOf W g j = some u ∧ u.oneCell' = true) ∧ (∀ (j : Nat) d u, cs[j]? = some d → memOf W g j = some u → Rd (memOf W) u d) := by
    intro g _ cs hc
    refine ⟨fun j d hd => ?_, fun j d u hd hu => ?_⟩
    · obtain ⟨n, rfl, _, _, h⟩ := hc j d hd; exact ⟨_, h, rfl⟩
    · obtain ⟨n, rfl, h0, h1, h⟩ := hc j d hd
      have : some u = some (Value.int .u8 n) := hu.symm.trans h
      cases this
      exact .int (by rw [kmin_eq]; exact h0) (by rw [kmax_eq]; exact h1)
  have hft : ∀ c, (0 : Int) ≤ Lib.firstT c ∧ (Lib.firstT c : Int) ≤ 255 := fun c => by
    rcases Lib.firstT_cases c with h | h | h | h | h | h | h | h | h <;> rw [h] <;> omega
  intro g cs hg
  simp only [u8G] at hg
  split at hg
  · rename_i e
    subst e
    cases hg
    refine one g 0 _ fun j d hd => ?_
    have hj : j < 256 := by have := (List.getElem?_eq_some_iff.1 hd).1; simpa [firstP] using this
    simp [firstP, hj] at hd
    exact ⟨_, hd.symm, (hft j).1, (hft j).2, h.1 j hj⟩
  · split at hg
    · rename_i _ e
      subst e
      cases hg
      refine one g 0 _ fun j d hd => ?_
      have hj : j < 32 := by have := (List.getElem?_eq_some_iff.1 hd).1; simpa [accP] using this
      simp only [accP, List.getElem?_map, List.getElem?_range hj, Option.map_some, Option.some.injEq] at hd
      have hb := h.2 (j / 2) (by omega)
      have hacc : ∀ i, i < 16 → (0 : Int) ≤ Lib.accLo i ∧ (Lib.accLo i : Int) ≤ 255 ∧ (0 : Int) ≤ Lib.accHi i ∧ (Lib.accHi i : Int) ≤ 255 := by decide
      have hac := hacc (j / 2) (by omega)
      by_cases h2 : j % 2 = 0
      · rw [if_pos h2] at hd
        exact ⟨_, hd.symm, hac.1, hac.2.1, by have := hb.1; rwa [show 2 * (j / 2) = j by omega] at this⟩
      · rw [if_neg h2] at hd
        exact ⟨_, hd.symm, hac.2.2.1, hac.2.2.2, by have := hb.2; rwa [show 2 * (j / 2) + 1 = j by omega] at this⟩
    · cases hg
end Sy
variable {G : Glob}
abbrev U8 (G : Glob) : Prop := HasU8 1 2 G
end Go.Proofs.YtdlejiiiifhiiaaGreatDoor
/-
  DERIVED: THE SHELF's CONTRACTS AT THIS DUMP, IN PLAIN WORDS (tools/lay-plain.mjs out of 'TryzShelfQ.lean', which tools/lay-shelf.mjs wrote): THE SAME DECLARATIONS UNDER THE SAME NAMES: 'import', 'namespace', 'open', 'def', 'theorem' AND NOTHING ELSE: no command of the shelf's: FOR A HAND-IN. Each laying: the table of numbers ('.._ren') and one theorem, a field a fact of the dump's own or the kernel's comparison; each contract: ONE APPLICATION.
-/
namespace Go.Proofs
open Go.Shelf
def Tryz.lays197_ren : Go.Shelf.Ren := ⟨fun | 197 => 81 | 260 => 98 | n => n, fun | 9 => 9 | 21 => 21 | 3 => 3 | 4 => 4 | 5 => 5 | 105 => 110 | 119 => 144 | 0 => 0 | 46 => 77 | 139 => 147 | 138 => 146 | n => n, fun | 3 => 1 | 4 => 2 | n => n⟩
theorem Tryz.lays197 : Go.Proofs.Lays.n197 Tryz.prog Tryz.lays197_ren := {
  mixed := by kernel_rfl
  f197 := Tryz.func81.trans (congrArg some (by kernel_rfl))
  f260 := Tryz.func98.trans (congrArg some (by kernel_rfl))
  t0 := Tryz.underlying0
  a0 := Tryz.isAgg0
  z0 := Tryz.sizeOf0
  v0 := Tryz.zeroValue0
  t3 := Tryz.underlying3
  a3 := Tryz.isAgg3
  z3 := Tryz.sizeOf3
  v3 := Tryz.zeroValue3
  t4 := Tryz.underlying4
  a4 := Tryz.isAgg4
  z4 := Tryz.sizeOf4
  v4 := Tryz.zeroValue4
  t5 := Tryz.underlying5
  a5 := Tryz.isAgg5
  z5 := Tryz.sizeOf5
  v5 := Tryz.zeroValue5
  t9 := Tryz.underlying9
  a9 := Tryz.isAgg9
  z9 := Tryz.sizeOf9
  v9 := Tryz.zeroValue9
  t21 := Tryz.underlying21
  a21 := Tryz.isAgg21
  z21 := Tryz.sizeOf21
  v21 := Tryz.zeroValue21
  t46 := Tryz.underlying77
  a46 := Tryz.isAgg77
  z46 := Tryz.sizeOf77
  v46 := Tryz.zeroValue77
  t105 := Tryz.underlying110
  a105 := Tryz.isAgg110
  z105 := Tryz.sizeOf110
  v105 := Tryz.zeroValue110
  t119 := Tryz.underlying144
  a119 := Tryz.isAgg144
  z119 := Tryz.sizeOf144
  t138 := Tryz.underlying146
  a138 := Tryz.isAgg146
  z138 := Tryz.sizeOf146
  v138 := Tryz.zeroValue146
  t139 := Tryz.underlying147
  a139 := Tryz.isAgg147
  z139 := Tryz.sizeOf147
  v139 := Tryz.zeroValue147
  g3 := by kernel_rfl
  g4 := by kernel_rfl }
def Tryz.lays105_ren : Go.Shelf.Ren := ⟨fun | 105 => 37 | 212 => 61 | 99 => 47 | 165 => 62 | 166 => 40 | 170 => 63 | 169 => 41 | 263 => 84 | 264 => 85 | 206 => 73 | 240 => 64 | 241 => 86 | 276 => 87 | 277 => 101 | n => n, fun | 9 => 9 | 3 => 3 | 4 => 4 | 20 => 20 | 0 => 0 | 46 => 77 | 109 => 94 | 5 => 5 | 72 => 70 | 76 => 74 | 51 => 113 | 146 => 114 | 53 => 24 | 148 => 116 | 70 => 67 | 37 => 68 | 75 => 72 | 127 => 99 | 164 => 118 | 80 => 78 | n => n, fun | n => n⟩
theorem Tryz.lays105 : Go.Proofs.Lays.n105 Tryz.prog Tryz.lays105_ren := {
  mixed := by kernel_rfl
  f99 := Tryz.func47.trans (congrArg some (by kernel_rfl))
  f105 := Tryz.func37.trans (congrArg some (by kernel_rfl))
  f165 := Tryz.func62.trans (congrArg some (by kernel_rfl))
  f166 := Tryz.func40.trans (congrArg some (by kernel_rfl))
  f169 := Tryz.func41.trans (congrArg some (by kernel_rfl))
  f170 := Tryz.func63.trans (congrArg some (by kernel_rfl))
  f206 := Tryz.func73.trans (congrArg some (by kernel_rfl))
  f212 := Tryz.func61.trans (congrArg some (by kernel_rfl))
  f240 := Tryz.func64.trans (congrArg some (by kernel_rfl))
  f241 := Tryz.func86.trans (congrArg some (by kernel_rfl))
  f263 := Tryz.func84.trans (congrArg some (by kernel_rfl))
  f264 := Tryz.func85.trans (congrArg some (by kernel_rfl))
  f276 := Tryz.func87.trans (congrArg some (by kernel_rfl))
  f277 := Tryz.func101.trans (congrArg some (by kernel_rfl))
  t0 := Tryz.underlying0
  a0 := Tryz.isAgg0
  z0 := Tryz.sizeOf0
  v0 := Tryz.zeroValue0
  t3 := Tryz.underlying3
  a3 := Tryz.isAgg3
  z3 := Tryz.sizeOf3
  v3 := Tryz.zeroValue3
  t4 := Tryz.underlying4
  a4 := Tryz.isAgg4
  z4 := Tryz.sizeOf4
  v4 := Tryz.zeroValue4
  t5 := Tryz.underlying5
  a5 := Tryz.isAgg5
  z5 := Tryz.sizeOf5
  v5 := Tryz.zeroValue5
  t9 := Tryz.underlying9
  a9 := Tryz.isAgg9
  z9 := Tryz.sizeOf9
  v9 := Tryz.zeroValue9
  t20 := Tryz.underlying20
  a20 := Tryz.isAgg20
  z20 := Tryz.sizeOf20
  v20 := Tryz.zeroValue20
  t37 := Tryz.underlying68
  a37 := Tryz.isAgg68
  z37 := Tryz.sizeOf68
  v37 := Tryz.zeroValue68
  t46 := Tryz.underlying77
  a46 := Tryz.isAgg77
  z46 := Tryz.sizeOf77
  v46 := Tryz.zeroValue77
  t51 := Tryz.underlying113
  a51 := Tryz.isAgg113
  z51 := Tryz.sizeOf113
  v51 := Tryz.zeroValue113
  t53 := Tryz.underlying24
  a53 := Tryz.isAgg24
  z53 := Tryz.sizeOf24
  v53 := Tryz.zeroValue24
  t70 := Tryz.underlying67
  a70 := Tryz.isAgg67
  z70 := Tryz.sizeOf67
  v70 := Tryz.zeroValue67
  t72 := Tryz.underlying70
  a72 := Tryz.isAgg70
  z72 := Tryz.sizeOf70
  v72 := Tryz.zeroValue70
  t75 := Tryz.underlying72
  a75 := Tryz.isAgg72
  z75 := Tryz.sizeOf72
  v75 := Tryz.zeroValue72
  t76 := Tryz.underlying74
  a76 := Tryz.isAgg74
  z76 := Tryz.sizeOf74
  v76 := Tryz.zeroValue74
  t109 := Tryz.underlying94
  a109 := Tryz.isAgg94
  z109 := Tryz.sizeOf94
  v109 := Tryz.zeroValue94
  t127 := Tryz.underlying99
  a127 := Tryz.isAgg99
  z127 := Tryz.sizeOf99
  v127 := Tryz.zeroValue99
  t146 := Tryz.underlying114
  a146 := Tryz.isAgg114
  z146 := Tryz.sizeOf114
  v146 := Tryz.zeroValue114
  t148 := Tryz.underlying116
  a148 := Tryz.isAgg116
  z148 := Tryz.sizeOf116
  v148 := Tryz.zeroValue116
  t164 := Tryz.underlying118
  a164 := Tryz.isAgg118
  z164 := Tryz.sizeOf118
  v164 := Tryz.zeroValue118 }
def Tryz.lays169_ren : Go.Shelf.Ren := ⟨fun | 169 => 41 | n => n, fun | 70 => 67 | 9 => 9 | 0 => 0 | 72 => 70 | 37 => 68 | 127 => 99 | 3 => 3 | 5 => 5 | n => n, fun | n => n⟩
theorem Tryz.lays169 : Go.Proofs.Lays.n169 Tryz.prog Tryz.lays169_ren := {
  mixed := by kernel_rfl
  f169 := Tryz.func41.trans (congrArg some (by kernel_rfl))
  t0 := Tryz.underlying0
  a0 := Tryz.isAgg0
  z0 := Tryz.sizeOf0
  v0 := Tryz.zeroValue0
  t3 := Tryz.underlying3
  a3 := Tryz.isAgg3
  z3 := Tryz.sizeOf3
  v3 := Tryz.zeroValue3
  t9 := Tryz.underlying9
  a9 := Tryz.isAgg9
  z9 := Tryz.sizeOf9
  v9 := Tryz.zeroValue9
  t37 := Tryz.underlying68
  a37 := Tryz.isAgg68
  z37 := Tryz.sizeOf68
  v37 := Tryz.zeroValue68
  t70 := Tryz.underlying67
  a70 := Tryz.isAgg67
  z70 := Tryz.sizeOf67
  v70 := Tryz.zeroValue67
  t72 := Tryz.underlying70
  a72 := Tryz.isAgg70
  z72 := Tryz.sizeOf70
  v72 := Tryz.zeroValue70
  t127 := Tryz.underlying99
  a127 := Tryz.isAgg99
  z127 := Tryz.sizeOf99
  v127 := Tryz.zeroValue99 }
def Tryz.lays156_ren : Go.Shelf.Ren := ⟨fun | 156 => 43 | 165 => 62 | 166 => 40 | 169 => 41 | 240 => 64 | 241 => 86 | 276 => 87 | 277 => 101 | n => n, fun | 31 => 27 | 9 => 9 | 3 => 3 | 4 => 4 | 0 => 0 | 20 => 20 | 72 => 70 | 76 => 74 | 70 => 67 | 37 => 68 | 75 => 72 | 127 => 99 | 164 => 118 | 5 => 5 | 80 => 78 | n => n, fun | n => n⟩
theorem Tryz.lays156 : Go.Proofs.Lays.n156 Tryz.prog Tryz.lays156_ren := {
  mixed := by kernel_rfl
  f156 := Tryz.func43.trans (congrArg some (by kernel_rfl))
  f165 := Tryz.func62.trans (congrArg some (by kernel_rfl))
  f166 := Tryz.func40.trans (congrArg some (by kernel_rfl))
  f169 := Tryz.func41.trans (congrArg some (by kernel_rfl))
  f240 := Tryz.func64.trans (congrArg some (by kernel_rfl))
  f241 := Tryz.func86.trans (congrArg some (by kernel_rfl))
  f276 := Tryz.func87.trans (congrArg some (by kernel_rfl))
  f277 := Tryz.func101.trans (congrArg some (by kernel_rfl))
  t0 := Tryz.underlying0
  a0 := Tryz.isAgg0
  z0 := Tryz.sizeOf0
  v0 := Tryz.zeroValue0
  t3 := Tryz.underlying3
  a3 := Tryz.isAgg3
  z3 := Tryz.sizeOf3
  v3 := Tryz.zeroValue3
  t4 := Tryz.underlying4
  a4 := Tryz.isAgg4
  z4 := Tryz.sizeOf4
  v4 := Tryz.zeroValue4
  t9 := Tryz.underlying9
  a9 := Tryz.isAgg9
  z9 := Tryz.sizeOf9
  v9 := Tryz.zeroValue9
  t20 := Tryz.underlying20
  a20 := Tryz.isAgg20
  z20 := Tryz.sizeOf20
  v20 := Tryz.zeroValue20
  t31 := Tryz.underlying27
  a31 := Tryz.isAgg27
  z31 := Tryz.sizeOf27
  v31 := Tryz.zeroValue27
  t37 := Tryz.underlying68
  a37 := Tryz.isAgg68
  z37 := Tryz.sizeOf68
  v37 := Tryz.zeroValue68
  t70 := Tryz.underlying67
  a70 := Tryz.isAgg67
  z70 := Tryz.sizeOf67
  v70 := Tryz.zeroValue67
  t72 := Tryz.underlying70
  a72 := Tryz.isAgg70
  z72 := Tryz.sizeOf70
  v72 := Tryz.zeroValue70
  t75 := Tryz.underlying72
  a75 := Tryz.isAgg72
  z75 := Tryz.sizeOf72
  v75 := Tryz.zeroValue72
  t76 := Tryz.underlying74
  a76 := Tryz.isAgg74
  z76 := Tryz.sizeOf74
  v76 := Tryz.zeroValue74
  t127 := Tryz.underlying99
  a127 := Tryz.isAgg99
  z127 := Tryz.sizeOf99
  v127 := Tryz.zeroValue99
  t164 := Tryz.underlying118
  a164 := Tryz.isAgg118
  z164 := Tryz.sizeOf118
  v164 := Tryz.zeroValue118 }
end Go.Proofs
/-
  OUR OWN LAYER: contracts of the kit's shelf as ours: strings.Compare, strings.Repeat.
-/
namespace Go.Proofs.YtdlejiiiifhiiaaGreatDoor
open Sy Go
variable {G : Glob}
theorem arg_str2 {M : FMap} {vs : Array Value} {s t : List UInt8} (hsz : vs.size = 2) (h : ∀ (i : Nat) u d, vs[i]? = some u → [PD.str s, PD.str t][i]? = some d → Rd M u d) : ∃ a b : ByteArray, vs = #[.string a, .string b] ∧ a.data.toList = s ∧ b.data.toList = t := by
  obtain ⟨l⟩ := vs
  match l, hsz with
  | [u, v], _ =>
    have h1 := h 0 u (.str s) rfl rfl
    have h2 := h 1 v (.str t) rfl rfl
    cases h1 with
    | @str a _ ha _ =>
    cases h2 with
    | @str b _ hb _ => exact ⟨a, b, rfl, ha, hb⟩
theorem arg_strInt {M : FMap} {vs : Array Value} {s : List UInt8} {n : Int} (hsz : vs.size = 2) (h : ∀ (i : Nat) u d, vs[i]? = some u → [PD.str s, PD.int .i64 n][i]? = some d → Rd M u d) : ∃ a : ByteArray, vs = #[.string a, .int .i64 n] ∧ a.data.toList = s ∧ n ≤ 9223372036854775807 := by
  obtain ⟨l⟩ := vs
  match l, hsz with
  | [u, v], _ =>
    have h1 := h 0 u (.str s) rfl rfl
    have h2 := h 1 v (.int .i64 n) rfl rfl
    cases h1 with
    | @str a _ ha _ =>
    cases h2 with
    | int h3 h4 => exact ⟨a, rfl, ha, by rw [kmax_eq] at h4; exact h4⟩
theorem builder_extra : Builder.Extra Tryz.prog Tryz.lays105_ren where
  sizeBuilder := by kernel_rfl
  liesBuilder := by kernel_rfl
  t5 := Tryz.underlying5
  a5 := Tryz.isAgg5
  z5 := Tryz.sizeOf5
  v5 := Tryz.zeroValue5
  infoByte := by kernel_rfl
  cellsByte := by kernel_rfl
  sizeByte := by kernel_rfl
  neB5 := by decide
theorem Repeat_ev (s : List UInt8) (n : Nat) (h : s.length * n ≤ 140737488355328) : AFn Tryz.prog G 37 [.str s, .int .i64 n] (.str (Lib.repeatL s n)) := by
  refine AFn.of_calls (callable_of Tryz.func37 (by kernel_rfl) rfl) fun M w vs hg hmem hsz hrd => ?_
  obtain ⟨x, rfl, rfl, hn⟩ := arg_strInt hsz hrd
  refine (Any.strings_Repeat Tryz.lays105 builder_extra x n w (by omega) (by rw [str_size rfl]; exact h)).mono ?_
  rintro e w' ⟨rfl, hb⟩
  refine ⟨_, rfl, .str (by simp) ?_, hb⟩
  rw [Lib.repeatL_length, Nat.mul_comm]; simp only [maxLen]; omega
end Go.Proofs.YtdlejiiiifhiiaaGreatDoor
