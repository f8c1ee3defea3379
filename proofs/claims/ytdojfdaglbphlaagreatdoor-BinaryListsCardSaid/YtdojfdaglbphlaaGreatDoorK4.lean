import Derived.Test.YtdojfdaglbphlaaGreatDoorK3
import Derived.Test.YtdojfdaglbphlaaGreatDoorK2
import Derived.Test.YtdojfdaglbphlaaGreatDoorM4
import Derived.Test.YtdojfdaglbphlaaGreatDoorM3
import Derived.Test.YtdojfdaglbphlaaGreatDoorK1
namespace Go.Proofs.YtdojfdaglbphlaaGreatDoor
open Sy Go
set_option maxRecDepth 100000
set_option maxHeartbeats 4000000
set_option linter.unusedSimpArgs false
set_option linter.unusedVariables false
variable {G : qQ}
theorem yQ (b : UInt8) (n : Nat) (hn : n < 256) : ((b.toNat : Int) = (n : Int)) ↔ b = UInt8.ofNat n := by
 constructor
 ·intro e; exact UInt8.toNat_inj.1 (by rw [UInt8.toNat_ofNat']; omega)
 ·rintro rfl; rw [UInt8.toNat_ofNat']; omega
theorem zFY {s : List UInt8} {i : Nat} {c : UInt8} (h : s[i]? = some c) (hc : ¬ c.toNat < 128) : (zW s i).2 ≠ 1 := by
 unfold zW
 rw [h]
 simp only
 rw [if_neg (by omega)]
 unfold kN
 split
 ·decide
 ·rename_i h0
  have hn : (yX c.toNat).1 = 0 ∨ 2 ≤ (yX c.toNat).1 := by
   unfold yX
   repeat' split
   all_goals simp
  unfold qLM
  split
  ·simp
  ·split
   ·simp
   ·simp only; omega
theorem qZH {s : List UInt8} {k : Nat} (hk : k < s.length) : Lib.decodeL (s.drop k) = if (zW s k).2 = 0 then (65533, 1) else ((zW s k).1.toNat, (zW s k).2.toNat) := by
 unfold Lib.decodeL
 rw [qKU (by rw [List.length_drop]; omega), ← qMZ]
theorem qQP {s : List UInt8} (hne : s ≠ []) (f k : Nat) (out : List UInt8) : vM (f + 1) s k out = if (Lib.decodeL s).1 = 34 then (if 4096 < out.length then ([], 0, 3) else (out, k + 1, 0)) else if (Lib.decodeL s).1 < 32 ∨ ((Lib.decodeL s).1 = 65533 ∧ (Lib.decodeL s).2 = 1) then ([], 0, 6)
  else if (Lib.decodeL s).1 = 92 then (match zLV s with
   | none => ([], 0, 6)
   | some (c, n) => vM f (s.drop n) (k + n) (out ++ Lib.encodeRune c))
  else vM f (s.drop (Lib.decodeL s).2) (k + (Lib.decodeL s).2) (out ++ Lib.encodeRune (Lib.decodeL s).1) := by
 simp only [vM]; rw [if_neg hne] <;> rfl
theorem zFK (f k : Nat) (out : List UInt8) : vM f [] k out = ([], 0, 6) := by cases f <;> rfl
theorem zJA {s : List UInt8} {k : Nat} {c : UInt8} (hc : s[k]? = some c) (h34 : c ≠ 34) (h92 : c ≠ 92) (f : Nat) (out : List UInt8) : vM (f + 1) (s.drop k) k out =
  if (zW s k).2 = 0 ∨ (zW s k).1 < 32 then ([], 0, 6) else vM f (s.drop (k + (zW s k).2.toNat)) (k + (zW s k).2.toNat) (out ++ (s.drop k).take (zW s k).2.toNat) := by
 have hk := (List.getElem?_eq_some_iff.1 hc).1
 have hne : s.drop k ≠ [] := by intro e; have := congrArg List.length e; simp at this; omega
 have hd := qZH hk
 have hcons : ∃ t, s.drop k = c :: t := ⟨s.drop (k + 1), by rw [List.drop_eq_getElem_cons hk, (List.getElem?_eq_some_iff.1 hc).2]⟩
 have hlen := qFV s k hk
 rw [qQP hne, List.drop_drop]
 have t34 : c.toNat = 34 → c = 34 := fun h => UInt8.toNat_inj.1 h
 have t92 : c.toNat = 92 → c = 92 := fun h => UInt8.toNat_inj.1 h
 by_cases hlt : c.toNat < 128
 ·obtain ⟨t, ht⟩ := hcons
  have h1 : Lib.decodeL (s.drop k) = (c.toNat, 1) := by rw [ht]; exact qOW hlt
  have h2 : (zW s k).2 ≠ 0 := fun h0 => by rw [h1, if_pos h0] at hd; have := congrArg Prod.fst hd; simp only at this; omega
  have h3 : (zW s k).1.toNat = c.toNat ∧ (zW s k).2.toNat = 1 := by rw [h1, if_neg h2] at hd; exact ⟨(congrArg Prod.fst hd).symm, (congrArg Prod.snd hd).symm⟩
  have h4 : (zW s k).1 = c.toNat := by
   unfold zW; rw [hc]; simp only; rw [if_pos (by omega)]
  rw [h1]
  simp only
  rw [if_neg (fun h => h34 (t34 h)), h3.2]
  by_cases h32 : c.toNat < 32
  ·rw [if_pos (.inl h32), if_pos (.inr (by omega))]
  ·rw [if_neg (by omega), if_neg (fun h => h92 (t92 h)), if_neg (by omega)]
   have : Lib.encodeRune (c.toNat : Int) = (s.drop k).take 1 := by rw [zKO hlt, ht]; rfl
   rw [this]
 ·by_cases h0 : (zW s k).2 = 0
  ·rw [if_pos h0] at hd
   rw [hd]
   simp only
   rw [if_neg (by omega), if_pos (.inr (by simp)), if_pos (.inl h0)]
  ·have h1 := zFY hc hlt
   rw [if_neg h0] at hd
   have hbad : ¬ ((Lib.decodeL (s.drop k)).1 = 65533 ∧ (Lib.decodeL (s.drop k)).2 = 1) := by rw [hd]; simp only; omega
   have h128 : 128 ≤ ((s.drop k).getD 0 0).toNat := by
    obtain ⟨t, ht⟩ := hcons
    rw [ht]; show 128 ≤ c.toNat; omega
   have hbig := (zII (s.drop k) hne hbad h128).2
   have henc := Lib.encode_decode (s.drop k) hne hbad
   rw [if_neg (by omega), if_neg (by rintro (h | h); omega; exact hbad h), if_neg (by omega), henc, hd]
   rw [hd] at hbig
   simp only at hbig ⊢
   rw [if_neg (show ¬ ((zW s k).2 = 0 ∨ (zW s k).1 < 32) by omega)]
@[simp] def rqC (s : List UInt8) (q : RQ) : List V := [.p (.str s), .p (.int .i64 q.pos), .p (.int .i64 q.nodes), .p (.bool q.bad), .p (.bool q.deep), .p (.bool q.big)]
attribute [local simp] wK
theorem getD_some {s : List UInt8} {k : Nat} (h : k < s.length) : s[k]? = some (s.getD k 0) := by rw [List.getD_eq_getElem?_getD, List.getElem?_eq_getElem h]; rfl
theorem zWU (c : UInt8) : qOK c = true ↔ ((((c.toNat : Int) = 32 ∨ (c.toNat : Int) = 9) ∨ (c.toNat : Int) = 10) ∨ (c.toNat : Int) = 13) := by
 rw [show ((c.toNat : Int) = 32) = (c = 32) from propext (yQ c 32 (by decide)), show ((c.toNat : Int) = 9) = (c = 9) from propext (yQ c 9 (by decide)), show ((c.toNat : Int) = 10) = (c = 10) from propext (yQ c 10 (by decide)), show ((c.toNat : Int) = 13) = (c = 13) from propext (yQ c 13 (by decide))]
 simp only [qOK, Bool.or_eq_true, beq_iff_eq]
 constructor
 ·rintro (((h | h) | h) | h) <;> simp [h]
 ·rintro (((h | h) | h) | h) <;> simp [h]
theorem jK (s : List UInt8) (q : RQ) (hs : s.length ≤ 1000000000) (hp : q.pos ≤ 6000000000) : AX Tryz.prog G 180 [.ptr 2 0] [(2, .vars 137 (rqC s q))] (.tuple []) [2] [(2, .vars 137 (rqC s (blQ s q)))] := by
 refine AX.introU tok 900 Tryz.func180 (by kernel_rfl) rfl rfl ?_
 simp only [Tryz.f180, qJ, List.map_cons, List.map_nil]
 have hbl : blQ s q = ⟨q.pos + blL (s.drop q.pos), q.nodes, q.bad, q.deep, q.big⟩ := rfl
 rw [hbl]
 have htw := fun k => qAA (p := qOK) (l := s.drop q.pos) (n := k)
 have hbe : (List.takeWhile qOK (s.drop q.pos)).length = blL (s.drop q.pos) := rfl
 rw [hbe] at htw
 have hble := (zEX (s.drop q.pos)).2
 rw [List.length_drop] at hble
 generalize blL (s.drop q.pos) = B at *
 refine AW.block ?_
 refine AW.loop (α := Nat) (fun k => k ≤ B) (fun k => ⟨qW 67 [(0, .ptr 2 0)], [2], [(2, .vars 137 [.p (.str s), .p (.int .i64 (q.pos + k : Nat)), .p (.int .i64 q.nodes), .p (.bool q.bad), .p (.bool q.deep), .p (.bool q.big)])], 900⟩) (fun k => B - k) (0) (by omega) ⟨qB (by simp), rfl, by simp, by simp⟩ ?_
 rintro k hk
 have hlt := htw k hk
 have hg := fun h => getD_some (s := s) (k := q.pos + k) h
 have hba := zWU (s.getD (q.pos + k) 0)
 generalize s.getD (q.pos + k) 0 = c at *
 refine AW.seq ?_
 refine AW.seqDrawS tok mixed 58 [[0], [2], [3], [4], [0], [6], [7], [8], [9], [5, 10], [11], [0, 12], [13, 12], [14, 12], [15, 12], [0, 12], [17, 12], [18, 12], [19, 12], [16, 20, 12], [21, 12], [22, 12], [0, 23], [24, 23], [25, 23], [26, 23], [0, 23], [28, 23], [29, 23], [30, 23], [27, 31, 23], [32, 23], [23, 33, 12], [34, 12], [0, 35], [36, 35], [37, 35], [38, 35], [0, 35], [40, 35], [41, 35], [42, 35], [39, 43, 35], [44, 35], [35, 45, 12], [46, 12], [0, 47], [48, 47], [49, 47], [50, 47], [0, 47], [52, 47], [53, 47], [54, 47], [51, 55, 47], [56, 47], [47, 57, 12], [12, 58]] [.int .u8 c.toNat, .int .u8 c.toNat, .int .u8 c.toNat, .int .u8 c.toNat] [] (by kernel_rfl) ?_
 iterate 11 refine d1 ?_ (hv := by first | with_reducible exact True.intro | (first | (intros; exact ⟨by assumption, by omega, c, hg (by omega), rfl⟩) | (intros; exact ⟨by omega, by omega, c, hg (by omega), rfl⟩); done) | omega | simp | (simp +contextual; omega))
 iterate 11 refine d2 12 rfl rfl ?_ (hv := by first | with_reducible exact True.intro | (first | (intros; exact ⟨by assumption, by omega, c, hg (by omega), rfl⟩) | (intros; exact ⟨by omega, by omega, c, hg (by omega), rfl⟩); done) | omega | simp | (simp +contextual; omega))
 iterate 10 refine d2 23 rfl rfl ?_ (hv := by first | with_reducible exact True.intro | (first | (intros; exact ⟨by assumption, by omega, c, hg (by omega), rfl⟩) | (intros; exact ⟨by omega, by omega, c, hg (by omega), rfl⟩); done) | omega | simp | (simp +contextual; omega))
 iterate 2 refine d2 12 rfl rfl ?_ (hv := by first | with_reducible exact True.intro | (first | (intros; exact ⟨by assumption, by omega, c, hg (by omega), rfl⟩) | (intros; exact ⟨by omega, by omega, c, hg (by omega), rfl⟩); done) | omega | simp | (simp +contextual; omega))
 iterate 10 refine d2 35 rfl rfl ?_ (hv := by first | with_reducible exact True.intro | (first | (intros; exact ⟨by assumption, by omega, c, hg (by omega), rfl⟩) | (intros; exact ⟨by omega, by omega, c, hg (by omega), rfl⟩); done) | omega | simp | (simp +contextual; omega))
 iterate 2 refine d2 12 rfl rfl ?_ (hv := by first | with_reducible exact True.intro | (first | (intros; exact ⟨by assumption, by omega, c, hg (by omega), rfl⟩) | (intros; exact ⟨by omega, by omega, c, hg (by omega), rfl⟩); done) | omega | simp | (simp +contextual; omega))
 iterate 10 refine d2 47 rfl rfl ?_ (hv := by first | with_reducible exact True.intro | (first | (intros; exact ⟨by assumption, by omega, c, hg (by omega), rfl⟩) | (intros; exact ⟨by omega, by omega, c, hg (by omega), rfl⟩); done) | omega | simp | (simp +contextual; omega))
 refine d2 12 rfl rfl ?_ (hv := by first | with_reducible exact True.intro | (first | (intros; exact ⟨by assumption, by omega, c, hg (by omega), rfl⟩) | (intros; exact ⟨by omega, by omega, c, hg (by omega), rfl⟩); done) | omega | simp | (simp +contextual; omega))
 refine d1 ?_ (hv := by first | with_reducible exact True.intro | (first | (intros; exact ⟨by assumption, by omega, c, hg (by omega), rfl⟩) | (intros; exact ⟨by omega, by omega, c, hg (by omega), rfl⟩); done) | omega | simp | (simp +contextual; omega))
 refine DGo.nil (by kernel_rfl) ⟨by kernel_rfl, ?_⟩
 refine qC.nil ?_
 refine cnd ?_ ?_
 ·intro h59
  try simp at h59
  have hkb : k < B := hlt.2 ⟨c, by rw [List.getElem?_drop]; exact hg (by omega), hba.2 h59.2⟩
  refine AW.skip ?_
  refine AW.block ?_
  refine rgz [] [[], [], [], [], [], [0, 64, 65], [], [0]] ?_
  iterate 8 refine op1 tok ?_
  refine qA ?_
  exact ⟨k + 1, by omega, by omega, qB (by simp [show (q.pos : Int) + ((k : Int) + 1) = (q.pos : Int) + k + 1 from by omega]), rfl, by simp [show (q.pos : Int) + ((k : Int) + 1) = (q.pos : Int) + k + 1 from by omega], by simp [show (q.pos : Int) + ((k : Int) + 1) = (q.pos : Int) + k + 1 from by omega]⟩
 ·intro h59
  try simp at h59
  have hkb : k = B := by
   rcases Nat.lt_or_ge k B with h | h
   ·obtain ⟨b, hb1, hb2⟩ := hlt.1 h
    rw [List.getElem?_drop] at hb1
    have hl := (List.getElem?_eq_some_iff.1 hb1).1
    rw [hg hl] at hb1
    cases hb1
    exact absurd (hba.1 hb2) (by have := h59 (by omega); omega)
   ·omega
  subst hkb
  refine AW.exit ?_
  simp
  exact zEN
theorem qCN (s : List UInt8) (q : RQ) (hs : s.length ≤ 1000000000) (hp : q.pos ≤ 6000000000) : AX Tryz.prog G 181 [.ptr 2 0] [(2, .vars 137 (rqC s q))] (.p (.int .u8 (nxQ s q).toNat)) [2] [(2, .vars 137 (rqC s q))] := by
 refine AX.introU tok 900 Tryz.func181 (by kernel_rfl) rfl rfl ?_
 simp only [Tryz.f181, qJ, List.map_cons, List.map_nil]
 have hn : nxQ s q = s.getD q.pos 0 := rfl
 have hg := fun h => getD_some (s := s) (k := q.pos) h
 have hge : ¬ q.pos < s.length → s.getD q.pos 0 = 0 := fun h => by rw [List.getD_eq_getElem?_getD, List.getElem?_eq_none (by omega)]; rfl
 rw [hn]
 generalize s.getD q.pos 0 = c at *
 refine rgn [] [[0]] ?_
 refine op1 tok ?_
 refine qA ?_
 refine AW.seq ?_
 refine AW.seqDrawS tok mixed 10 [[0], [3], [4], [5], [0], [7], [8], [9], [10], [6, 11]] [] [] (by kernel_rfl) ?_
 iterate 10 refine d1 ?_
 refine DGo.nil (by kernel_rfl) ⟨by kernel_rfl, ?_⟩
 refine qC.nil ?_
 refine cnd ?_ ?_
 ·intro h12
  try simp at h12
  have hc := hg (by omega)
  refine AW.seqDrawS tok mixed 9 [[0], [13], [14], [15], [0], [17], [18], [19], [16, 20]] [.int .u8 c.toNat] [] (by kernel_rfl) ?_
  iterate 9 refine d1 ?_ (hv := by first | with_reducible exact True.intro | (exact ⟨c, hc, rfl⟩; done) | omega | simp | (simp +contextual; omega))
  refine DGo.nil (by kernel_rfl) ⟨by kernel_rfl, ?_⟩
  refine qC.run [[2]] ?_
  refine op1 tok ?_
  refine qA ?_
  exact AW.ret zX
 ·intro h12
  try simp at h12
  have hc := hge (by omega)
  subst hc
  refine AW.skip ?_
  refine rgn [] [[]] ?_
  refine op1 tok ?_
  refine qA ?_
  exact AW.ret zX
theorem zIV (s : List UInt8) (q : RQ) (w : List UInt8) (hs : s.length ≤ 1000000000) (hp : q.pos ≤ s.length) (hw : w.length ≤ 100) : AX Tryz.prog G 185 [.ptr 2 0, .p (.str w)] [(2, .vars 137 (rqC s q))] (.p (.bool (uW s w q).1)) [2] [(2, .vars 137 (rqC s (uW s w q).2))] := by
 refine AX.introU tok 900 Tryz.func185 (by kernel_rfl) rfl rfl ?_
 simp only [Tryz.f185, qJ, List.map_cons, List.map_nil]
 have hwq : uW s w q = if (s.drop q.pos).take w.length = w then (true, wK q w.length) else (false, q) := rfl
 rw [hwq]
 have hsl : (s.take (q.pos + w.length)).drop q.pos = (s.drop q.pos).take w.length := by rw [List.drop_take, Nat.add_sub_cancel_left]
 have hln : (s.drop q.pos).take w.length = w → q.pos + w.length ≤ s.length := fun h => by
  have := congrArg List.length h
  simp at this; omega
 have hti : ((q.pos : Int) + (w.length : Int)).toNat = q.pos + w.length := by omega
 refine rgn [] [[0, 1]] ?_
 refine op1 tok ?_
 refine qA ?_
 refine AW.seq ?_
 refine AW.seqDrawS tok mixed 33 [[0], [5], [6], [7], [8], [0], [10], [11], [12], [9, 13], [1], [15], [14, 16], [17], [0, 18], [19, 18], [20, 18], [21, 18], [0, 18], [23, 18], [24, 18], [25, 18], [0, 18], [27, 18], [28, 18], [29, 18], [1, 18], [31, 18], [30, 32, 18], [22, 26, 33, 18], [1, 18], [34, 35, 18], [18, 36]] [] [] (by kernel_rfl) ?_
 iterate 14 refine d1 ?_ (h := by intro C; conv => lhs; simp [hti, hsl]) (hv := by first | with_reducible exact True.intro | (first | omega | (intros; omega); done) | omega | simp | (simp +contextual; omega))
 iterate 18 refine d2 18 rfl rfl ?_ (h := by intro C; conv => lhs; simp [hti, hsl]) (hv := by first | with_reducible exact True.intro | (first | omega | (intros; omega); done) | omega | simp | (simp +contextual; omega))
 refine d1 ?_ (h := by intro C; conv => lhs; simp [hti, hsl]) (hv := by first | with_reducible exact True.intro | (first | omega | (intros; omega); done) | omega | simp | (simp +contextual; omega))
 refine DGo.nil (by kernel_rfl) ⟨by kernel_rfl, ?_⟩
 refine qC.nil ?_
 refine cnd ?_ ?_
 ·intro h37
  try simp at h37
  rw [if_neg (by
   intro h
   have h2 := hln h
   rcases h37 with h' | h'
   ·omega
   ·exact h' h)]
  refine rgn [] [[]] ?_
  refine op1 tok ?_
  refine qA ?_
  exact AW.ret zX
 ·intro h37
  try simp at h37
  rw [if_pos h37.2]
  have h2 := hln h37.2
  refine AW.skip ?_
  refine rgn [] [[], [], [], [], [1, 38, 42], [], [], [38, 45], [], [], [48]] ?_
  iterate 11 refine op1 tok ?_
  refine qA ?_
  refine rgn [] [[]] ?_
  refine op1 tok ?_
  refine qA ?_
  exact AW.ret zX
theorem zPB (s : List UInt8) (hs : s.length ≤ 1000000000000) : AFn Tryz.prog G 214 [.str s] (.int .i64 (qEN s)) := by
 refine AFn.introU tok Tryz.func214 (by kernel_rfl) rfl rfl ?_
 simp only [Tryz.f214, qJ, List.map_cons, List.map_nil]
 refine rgn [] [[0]] ?_
 refine op1 tok ?_
 refine qA ?_
 refine AW.seq ?_
 refine rgn [] [[]] ?_
 refine op1 tok ?_
 refine qA ?_
 refine AW.block ?_
 refine AW.loop (α := Nat) (fun i => qEN s = qDE s i ∧ i ≤ s.length + 2) (fun i => ⟨qW 24 [(0, .p (.str s)), (3, .p (.int .i64 i))], [], [], 0⟩) (fun i => s.length + 2 - i) (1) ⟨zBD s, by omega⟩ ⟨qB (by simp), rfl, by simp, by simp⟩ ?_
 rintro i ⟨hi, hil⟩
 rw [hi]
 refine AW.seq ?_
 refine rgn [] [[], [], [], [0, 3, 7]] ?_
 iterate 4 refine op1 tok ?_
 refine qA ?_
 refine cnd ?_ ?_
 ·intro h7
  try simp at h7
  obtain ⟨c, hc⟩ : ∃ c, s[i]? = some c := ⟨s[i], by simp [show i < s.length by omega]⟩
  have hst := qXB hc
  rw [hst]
  have hcl := c.toNat_lt
  refine AW.skip ?_
  refine AW.seq ?_
  refine AW.block ?_
  refine AW.seq ?_
  refine rgn [.int .u8 c.toNat] [[], [], [], [0, 3, 13]] ?_
  iterate 4 refine op1 tok ?_ (hv := by first | with_reducible exact True.intro | (first | exact ⟨by omega, _, hc, rfl⟩ | simp [hc]; done) | omega | simp | (simp +contextual; omega))
  refine qA ?_
  refine cnd ?_ ?_
  ·intro h13
   try simp at h13
   rw [if_pos (show c = 34 from UInt8.toNat_inj.1 (by show c.toNat = 34; omega))]
   refine rgn [] [[], [], [2]] ?_
   iterate 3 refine op1 tok ?_
   refine qA ?_
   exact AW.ret qI
  ·intro h13
   try simp at h13
   rw [if_neg (show ¬ c = 34 by rintro rfl; exact h13 rfl)]
   rw [if_neg (show ¬ c = 34 by rintro rfl; exact h13 rfl)] at hst
   refine AW.skip ?_
   refine rgn [.int .u8 c.toNat] [[], [], [], [0, 3, 19]] ?_
   iterate 4 refine op1 tok ?_ (hv := by first | with_reducible exact True.intro | (first | exact ⟨by omega, _, hc, rfl⟩ | simp [hc]; done) | omega | simp | (simp +contextual; omega))
   refine qA ?_
   refine cnd ?_ ?_
   ·intro h19
    try simp at h19
    rw [if_pos (show c = 92 from UInt8.toNat_inj.1 (by show c.toNat = 92; omega))]
    rw [if_pos (show c = 92 from UInt8.toNat_inj.1 (by show c.toNat = 92; omega))] at hst
    refine rgz [] [[], [], [0, 3]] ?_
    iterate 3 refine op1 tok ?_
    refine qA ?_
    refine rgz [] [[], [], [0, 3]] ?_
    iterate 3 refine op1 tok ?_
    refine qA ?_
    exact ⟨i + 2, ⟨rfl, by omega⟩, by omega, qB (by simp [(show (i : Int) + 1 + 1 = i + 2 by omega)]), rfl, by simp [(show (i : Int) + 1 + 1 = i + 2 by omega)], by simp [(show (i : Int) + 1 + 1 = i + 2 by omega)]⟩
   ·intro h19
    try simp at h19
    rw [if_neg (show ¬ c = 92 by rintro rfl; exact h19 rfl)]
    rw [if_neg (show ¬ c = 92 by rintro rfl; exact h19 rfl)] at hst
    refine AW.skip ?_
    refine rgz [] [[], [], [0, 3]] ?_
    iterate 3 refine op1 tok ?_
    refine qA ?_
    exact ⟨i + 1, ⟨rfl, by omega⟩, by omega, qB (by simp), rfl, by simp, by simp⟩
 ·intro h7
  try simp at h7
  have hend : qDE s i = s.length := by
   unfold qDE; split
   ·rw [show i = s.length by omega]; simp [xY]
   ·rfl
  refine AW.exit ?_
  simp
  refine rgn [] [[], [], [2]] ?_
  iterate 3 refine op1 tok ?_
  refine qA ?_
  exact AW.ret (qI (k := by simp [hend]))
def qPM (G : qQ) (s : List UInt8) : Prop := ∀ k, AFn Tryz.prog G 213 [.str (s.drop k)] (.tup [.str (zJ (s.drop k)).1, .int .i64 (zJ (s.drop k)).2.1, .int .i64 (zJ (s.drop k)).2.2])
theorem qNI (s : List UInt8) (q : RQ) (hs : s.length ≤ 1000000000) (hp : q.pos ≤ s.length) (hU : qPM G s) : AX Tryz.prog G 182 [.ptr 2 0] [(2, .vars 137 (rqC s q))] (.p (.str (zK s q).2)) [2] [(2, .vars 137 (rqC s (zK s q).1))] := by
 refine AX.introU tok 900 Tryz.func182 (by kernel_rfl) rfl rfl ?_
 simp only [Tryz.f182, qJ, List.map_cons, List.map_nil]
 have hu := hU q.pos
 have hpr := qBR (s.drop q.pos)
 have hue := qKP (s.drop q.pos)
 have hen := zPB (G := G) (s.drop q.pos) (by simp; omega)
 have hsk := qMW (s.drop q.pos)
 have hq : zK s q = if (zJ (s.drop q.pos)).2.2 = 3 then ({ q with pos := q.pos + qEN (s.drop q.pos), big := true }, [])
  else ({ q with pos := q.pos + (zJ (s.drop q.pos)).2.1, bad := Bool.or q.bad (decide ((zJ (s.drop q.pos)).2.2 ≠ 0)) }, (zJ (s.drop q.pos)).1) := rfl
 rw [hq]
 have hdl : (s.drop q.pos).length ≤ 1000000000 := by simp; omega
 generalize zJ (s.drop q.pos) = u at *
 obtain ⟨us, un, ue⟩ := u
 simp only at hu hpr hue ⊢
 refine rgn [] [[0]] ?_
 refine op1 tok ?_
 refine qA ?_
 refine AW.seqDrawS tok mixed 16 [[0], [7], [8], [9], [0], [11], [12], [13], [10, 14], [15], [16], [6], [6], [6], [17], [18]] [.nilp, .tup [.str us, .int .i64 un, .int .i64 ue]] [] (by kernel_rfl) ?_
 iterate 16 refine d1 ?_ (hv := by first | with_reducible exact True.intro | (first | exact hu | omega; done) | omega | simp | (simp +contextual; omega))
 refine DGo.nil (by kernel_rfl) ⟨by kernel_rfl, ?_⟩
 refine qC.run [[0, 3, 4, 5]] ?_
 refine op1 tok ?_
 refine qA ?_
 refine AW.seq ?_
 refine rgn [] [[], [0, 3, 4, 5, 21]] ?_
 iterate 2 refine op1 tok ?_
 refine qA ?_
 refine cnd ?_ ?_
 ·intro h21
  try simp at h21
  rw [if_pos h21]
  refine rgn [] [[], [], [], [0]] ?_
  iterate 4 refine op1 tok ?_
  refine qA ?_
  refine AW.seqDrawS tok mixed 10 [[0], [25], [26], [27], [0], [29], [30], [31], [28, 32], [33]] [.nilp, .int .i64 (qEN (s.drop q.pos))] [] (by kernel_rfl) ?_
  iterate 10 refine d1 ?_ (hv := by first | with_reducible exact True.intro | (first | exact hen | omega; done) | omega | simp | (simp +contextual; omega))
  refine DGo.nil (by kernel_rfl) ⟨by kernel_rfl, ?_⟩
  refine qC.run [[0, 4]] ?_
  refine op1 tok ?_
  refine qA ?_
  refine rgz [] [[]] ?_
  refine op1 tok ?_
  refine qA ?_
  refine rgn [] [[], [], [], [], [3, 4, 40, 44], [], [], [3, 46, 47], [], [3]] ?_
  iterate 10 refine op1 tok ?_
  refine qA ?_
  refine rgn [] [[], [2]] ?_
  iterate 2 refine op1 tok ?_
  refine qA ?_
  exact AW.ret zX
 ·intro h21
  try simp at h21
  rw [if_neg h21]
  refine rgn [] [[], [0, 3, 4, 36]] ?_
  iterate 2 refine op1 tok ?_
  refine qA ?_
  refine cnd ?_ ?_
  ·intro h36
   try simp at h36
   rw [decide_eq_true h36]
   refine rgz [] [[], [], [], [0, 3, 4]] ?_
   iterate 4 refine op1 tok ?_
   refine qA ?_
   refine rgn [] [[], [], [], [], [3, 4, 40, 44], [], [], [3, 46, 47], [], [3]] ?_
   iterate 10 refine op1 tok ?_
   refine qA ?_
   refine rgn [] [[], [2]] ?_
   iterate 2 refine op1 tok ?_
   refine qA ?_
   exact AW.ret zX
  ·intro h36
   try simp at h36
   have hd0 : decide (ue ≠ 0) = false := by simp [h36]
   rw [hd0]
   refine AW.skip ?_
   refine rgn [] [[], [], [], [], [3, 4, 40, 44], [], [], [3, 46, 47], [], [3]] ?_
   iterate 10 refine op1 tok ?_
   refine qA ?_
   refine rgn [] [[], [2]] ?_
   iterate 2 refine op1 tok ?_
   refine qA ?_
   exact AW.ret zX
theorem zBS (c : UInt8) : AFn Tryz.prog G 216 [.int .u8 c.toNat] (.bool (yS c)) := by
 refine AFn.introU tok Tryz.func216 (by kernel_rfl) rfl rfl ?_
 simp only [Tryz.f216, qJ, List.map_cons, List.map_nil]
 have key : ∀ k : Fin 256, yS (UInt8.ofNat k.val) = (((((decide (48 ≤ k.val) && decide (k.val ≤ 57)) || decide (k.val = 45)) || decide (k.val = 43)) || decide (k.val = 46)) || decide (k.val = 101) || decide (k.val = 69)) := by decide +kernel
 have hk := key ⟨c.toNat, c.toNat_lt⟩
 simp only [UInt8.ofNat_toNat] at hk
 have e1 : decide ((48 : Int) ≤ (c.toNat : Int)) = decide (48 ≤ c.toNat) := by rw [decide_eq_decide]; omega
 have e2 : decide ((c.toNat : Int) ≤ 57) = decide (c.toNat ≤ 57) := by rw [decide_eq_decide]; omega
 have e3 : decide ((c.toNat : Int) = 45) = decide (c.toNat = 45) := by rw [decide_eq_decide]; omega
 have e4 : decide ((c.toNat : Int) = 43) = decide (c.toNat = 43) := by rw [decide_eq_decide]; omega
 have e5 : decide ((c.toNat : Int) = 46) = decide (c.toNat = 46) := by rw [decide_eq_decide]; omega
 have e6 : decide ((c.toNat : Int) = 101) = decide (c.toNat = 101) := by rw [decide_eq_decide]; omega
 have e7 : decide ((c.toNat : Int) = 69) = decide (c.toNat = 69) := by rw [decide_eq_decide]; omega
 rw [hk]
 refine rgn [] [[0]] ?_
 refine op1 tok ?_
 refine qA ?_
 refine rgn [] [[], [], [], [], [], [0, 8], [], [], [], [0, 12], [], [], [], [0, 16], [], [], [], [0, 20], [], [], [], [0, 24], [], [], [], [28], [2]] ?_
 iterate 27 first | refine op1 tok ?_ | refine op2 tok ?_
 refine qA ?_
 exact AW.ret (qI (k := by (simp [e1, e2, e3, e4, e5, e6, e7, Bool.or_assoc])))
end Go.Proofs.YtdojfdaglbphlaaGreatDoor
namespace Go.Proofs.YtdojfdaglbphlaaGreatDoor
open Sy Go
set_option maxRecDepth 100000
set_option maxHeartbeats 4000000
set_option linter.unusedSimpArgs false
set_option linter.unusedVariables false
variable {G : qQ}
attribute [local simp] wK
def qTH (G : qQ) (s : List UInt8) : Prop := ∀ k, AFn Tryz.prog G 26 [.str ((s.drop k).takeWhile yS)] (.tup [(wG ((s.drop k).takeWhile yS)).1.enc, .int .i64 (wG ((s.drop k).takeWhile yS)).2])
theorem zBT (s : List UInt8) (q : RQ) (hs : s.length ≤ 100000) (hp : q.pos ≤ s.length) (hNu : qTH G s) : AX Tryz.prog G 184 [.ptr 2 0] [(2, .vars 137 (rqC s q))] (.agg (vB s q).2.cells) [2] [(2, .vars 137 (rqC s (vB s q).1))] := by
 refine AX.introU tok 900 Tryz.func184 (by kernel_rfl) rfl rfl ?_
 simp only [Tryz.f184, qJ, List.map_cons, List.map_nil]
 have hle : ((s.drop q.pos).takeWhile yS).length ≤ s.length - q.pos := by
  have := (List.takeWhile_sublist yS (l := s.drop q.pos)).length_le
  rwa [List.length_drop] at this
 have hpa := hNu q.pos
 have hnq : vB s q = ({ q with pos := q.pos + ((s.drop q.pos).takeWhile yS).length, big := Bool.or q.big (decide ((wG ((s.drop q.pos).takeWhile yS)).2 = 3)), bad := Bool.or q.bad (decide ((wG ((s.drop q.pos).takeWhile yS)).2 ≠ 3 ∧ (wG ((s.drop q.pos).takeWhile yS)).2 ≠ 0)) },
  .mk 4 0 (if (wG ((s.drop q.pos).takeWhile yS)).2 = 3 then ⟨false, [48], 0⟩ else (wG ((s.drop q.pos).takeWhile yS)).1) [] [] [] 0) := rfl
 rw [hnq]
 have htw := fun k => qAA (p := yS) (l := s.drop q.pos) (n := k)
 have hA : (s.drop q.pos).take ((s.drop q.pos).takeWhile yS).length = (s.drop q.pos).takeWhile yS := (List.prefix_iff_eq_take.1 (List.takeWhile_prefix yS)).symm
 generalize (s.drop q.pos).takeWhile yS = A at *
 generalize wG A = p at *
 obtain ⟨dc, e⟩ := p
 simp only [Dc.enc] at hpa
 simp only
 refine rgn [] [[]] ?_
 refine op1 tok ?_
 refine qA ?_
 refine rgn [] [[], [], [], [], [0, 2, 3]] ?_
 iterate 5 refine op1 tok ?_
 refine qA ?_
 refine AW.seq ?_
 refine AW.block ?_
 refine AW.loop (α := Nat) (fun k => k ≤ A.length) (fun k => ⟨qW 66 [(0, .ptr 2 0), (2, .ptr 902 0), (3, .p (.int .i64 q.pos))], [2], [(2, .vars 137 [.p (.str s), .p (.int .i64 (q.pos + k : Nat)), .p (.int .i64 q.nodes), .p (.bool q.bad), .p (.bool q.deep), .p (.bool q.big)]), (902, .vars 31 [.p (.int .i64 0), .p (.int .u64 0), .p (.bool false), .p (.str []), .p (.int .i64 0), .p (.str []), .nilsl, .nilsl, .p (.int .i64 0)])], 900⟩) (fun k => A.length - k) (0) (by omega) ⟨qB (by simp), rfl, by simp, by simp⟩ ?_
 rintro k hk
 have hlt := htw k hk
 have hg := fun h => getD_some (s := s) (k := q.pos + k) h
 have hnu := zBS (G := G) (s.getD (q.pos + k) 0)
 generalize s.getD (q.pos + k) 0 = c at *
 refine AW.seq ?_
 refine AW.seqDrawS tok mixed 22 [[0], [10], [11], [12], [0], [14], [15], [16], [17], [13, 18], [19], [0, 20], [21, 20], [22, 20], [23, 20], [0, 20], [25, 20], [26, 20], [27, 20], [24, 28, 20], [29, 20], [20, 30]] [.int .u8 c.toNat, .nilp, .bool (yS c)] [] (by kernel_rfl) ?_
 iterate 11 refine d1 ?_ (hv := by first | with_reducible exact True.intro | (first | (intros; exact ⟨by assumption, by omega, c, hg (by omega), rfl⟩) | (intros; exact ⟨by omega, by omega, c, hg (by omega), rfl⟩) | (intros; exact ⟨by omega, hnu⟩) | (intros; exact hnu); done) | omega | simp | (simp +contextual; omega))
 iterate 10 refine d2 20 rfl rfl ?_ (hv := by first | with_reducible exact True.intro | (first | (intros; exact ⟨by assumption, by omega, c, hg (by omega), rfl⟩) | (intros; exact ⟨by omega, by omega, c, hg (by omega), rfl⟩) | (intros; exact ⟨by omega, hnu⟩) | (intros; exact hnu); done) | omega | simp | (simp +contextual; omega))
 refine d1 ?_ (hv := by first | with_reducible exact True.intro | (first | (intros; exact ⟨by assumption, by omega, c, hg (by omega), rfl⟩) | (intros; exact ⟨by omega, by omega, c, hg (by omega), rfl⟩) | (intros; exact ⟨by omega, hnu⟩) | (intros; exact hnu); done) | omega | simp | (simp +contextual; omega))
 refine DGo.nil (by kernel_rfl) ⟨by kernel_rfl, ?_⟩
 refine qC.nil ?_
 refine cnd ?_ ?_
 ·intro h31
  try simp at h31
  have hkb : k < A.length := hlt.2 ⟨c, by rw [List.getElem?_drop]; exact hg (by omega), h31.2⟩
  refine AW.skip ?_
  refine AW.block ?_
  refine rgz [] [[], [], [], [], [], [0, 2, 3, 36, 37], [], [0, 2, 3]] ?_
  iterate 8 refine op1 tok ?_
  refine qA ?_
  exact ⟨k + 1, by omega, by omega, qB (by simp [show (q.pos : Int) + ((k : Int) + 1) = (q.pos : Int) + k + 1 from by omega]), rfl, by simp [show (q.pos : Int) + ((k : Int) + 1) = (q.pos : Int) + k + 1 from by omega], by simp [show (q.pos : Int) + ((k : Int) + 1) = (q.pos : Int) + k + 1 from by omega]⟩
 ·intro h31
  try simp at h31
  have hkb : k = A.length := by
   rcases Nat.lt_or_ge k A.length with h | h
   ·obtain ⟨b, hb1, hb2⟩ := hlt.1 h
    rw [List.getElem?_drop] at hb1
    have hl := (List.getElem?_eq_some_iff.1 hb1).1
    rw [hg hl] at hb1
    cases hb1
    have := h31 (by omega)
    rw [hb2] at this; cases this
   ·omega
  subst hkb
  have hsl : (s.take (q.pos + A.length)).drop q.pos = A := by rw [List.drop_take, Nat.add_sub_cancel_left]; exact hA
  have hti : ((q.pos : Int) + (A.length : Int)).toNat = q.pos + A.length := by omega
  refine AW.exit ?_
  simp
  refine AW.seqDrawS tok mixed 16 [[0], [40], [41], [42], [3], [0], [45], [46], [47], [43, 44, 48], [49], [50], [39], [39], [], [4, 51]] [.nilp, .tup [.agg [.bool dc.neg, .str dc.digits, .int .i64 dc.scale], .int .i64 e]] [] (by kernel_rfl) ?_
  iterate 16 refine d1 ?_ (h := by intro C; conv => lhs; simp [hti, hsl]) (hv := by first | with_reducible exact True.intro | (first | exact hpa | omega | (intros; omega); done) | omega | simp | (simp +contextual; omega))
  refine DGo.nil (by kernel_rfl) ⟨by kernel_rfl, ?_⟩
  refine qC.run [[0, 2, 4, 5]] ?_
  refine op1 tok ?_ (h := by intro C; conv => lhs; simp [hti, hsl])
  refine qA ?_
  refine AW.seq ?_
  refine rgn [] [[], [0, 2, 4, 5, 54]] ?_
  iterate 2 refine op1 tok ?_
  refine qA ?_
  refine cnd ?_ ?_
  ·intro h54
   try simp at h54
   subst h54
   rw [if_pos rfl]
   refine rgn [] [[], [], [], [2, 4]] ?_
   iterate 4 refine op1 tok ?_
   refine qA ?_
   refine rgz [] [[], [2, 4]] ?_
   iterate 2 refine op1 tok ?_
   refine qA ?_
   refine rgn [] [[], [], [2]] ?_
   iterate 3 refine op1 tok ?_
   refine qA ?_
   refine AW.fillE 902 [none, none, none, none, none, none, some 1, some 9, none] (by conv => lhs; simp) ?_
   exact AW.ret zX
  ·intro h54
   try simp at h54
   rw [if_neg h54]
   refine rgn [] [[], [0, 2, 4, 60]] ?_
   iterate 2 refine op1 tok ?_
   refine qA ?_
   refine cnd ?_ ?_
   ·intro h60
    try simp at h60
    simp only [ne_eq, h54, h60, not_false_eq_true, and_self, decide_true, decide_false]
    refine rgz [] [[], [], [], [2, 4]] ?_
    iterate 4 refine op1 tok ?_
    refine qA ?_
    refine rgn [] [[], [], [2]] ?_
    iterate 3 refine op1 tok ?_
    refine qA ?_
    refine AW.fillE 902 [none, none, none, none, none, none, some 1, some 9, none] (by conv => lhs; simp) ?_
    exact AW.ret (zX (k := by simp [h54]))
   ·intro h60
    try simp at h60
    subst h60
    refine AW.skip ?_
    refine rgn [] [[], [], [2]] ?_
    iterate 3 refine op1 tok ?_
    refine qA ?_
    refine AW.fillE 902 [none, none, none, none, none, none, some 1, some 9, none] (by conv => lhs; simp) ?_
    exact AW.ret zX
theorem zOL (ks : List (List UInt8)) (vs : List Val) (key : List UInt8) (v : Val) (hlen : ks.length = vs.length) (hl : vs.length ≤ 1000000000) : AX Tryz.prog G 215 [.agg [.p (.int .i64 7), .p (.int .u64 0), .p (.bool false), .p (.str []), .p (.int .i64 0), .p (.str []), .ms 3, .ms 8, .p (.int .i64 0)], .p (.str key), .p v.enc] [(3, .row 9 1 (ks.map PD.str)), (8, .row 31 9 (vs.map Val.enc))] (.agg [.p (.int .i64 7), .p (.int .u64 0), .p (.bool false), .p (.str []), .p (.int .i64 0), .p (.str []), .ms 3, .ms 8, .p (.int .i64 0)]) [] [(3, .row 9 1 ((jY ks vs key v).1.map PD.str)), (8, .row 31 9 ((jY ks vs key v).2.map Val.enc))] := by
 refine AX.introU tok 900 Tryz.func215 (by kernel_rfl) rfl rfl ?_
 simp only [Tryz.f215, qJ, List.map_cons, List.map_nil]
 have hput : jY ks vs key v = if key ∈ ks then (ks, vs.set (ks.idxOf key) v) else (ks ++ [key], vs ++ [v]) := rfl
 rw [hput]
 refine rgn [] [[], [], [1, 3, 5, 6]] ?_
 iterate 3 refine op1 tok ?_
 refine qA ?_
 refine AW.seq ?_
 refine rgn [] [[]] ?_
 refine op1 tok ?_
 refine qA ?_
 refine AW.block ?_
 refine AW.loop (α := Nat) (fun k => k ≤ ks.length ∧ key ∉ ks.take k) (fun k => ⟨qW 41 [(1, .p (.str key)), (3, .ptr 903 0), (5, .ptr 905 0), (6, .ptr 906 0), (7, .p (.int .i64 k))], [3, 8], [(903, .vars 31 [.p (.int .i64 7), .p (.int .u64 0), .p (.bool false), .p (.str []), .p (.int .i64 0), .p (.str []), .ms 3, .ms 8, .p (.int .i64 0)]), (905, .vars 31 v.cells), (906, .vars 31 [.p (.int .i64 0), .p (.int .u64 0), .p (.bool false), .p (.str []), .p (.int .i64 0), .p (.str []), .nilsl, .nilsl, .p (.int .i64 0)]), (3, .row 9 1 (ks.map PD.str)), (8, .row 31 9 (vs.map Val.enc))], 900⟩) (fun k => ks.length - k) (0) ⟨by omega, by simp⟩ ⟨qB (by simp), rfl, by simp, by simp⟩ ?_
 rintro k ⟨hk, hno⟩
 refine AW.seq ?_
 refine rgn [] [[], [], [], [], [1, 3, 5, 6, 7, 12]] ?_
 iterate 5 refine op1 tok ?_
 refine qA ?_
 refine cnd ?_ ?_
 ·intro h12
  try simp at h12
  obtain ⟨x, hx⟩ : ∃ x, ks[k]? = some x := ⟨ks[k], by simp [h12]⟩
  refine AW.skip ?_
  refine AW.seq ?_
  refine AW.block ?_
  refine rgn [.str x] [[], [], [], [], [1, 3, 5, 6, 7, 19], [], [1, 3, 5, 6, 7, 21]] ?_
  iterate 7 refine op1 tok ?_ (hv := by first | with_reducible exact True.intro | (first | (simp [hx]; done) | (simp [hx]; omega); done) | omega | simp | (simp +contextual; omega))
  refine qA ?_
  refine cnd ?_ ?_
  ·intro h21
   try simp at h21
   subst h21
   have hm : x ∈ ks := List.mem_of_getElem? hx
   have hi : ks.idxOf x = k := by
    obtain ⟨h1, h2⟩ := List.getElem?_eq_some_iff.1 hx
    have h3 := List.take_append_drop k ks
    rw [← h3, List.idxOf_append, if_neg hno, List.drop_eq_getElem_cons h1, h2, List.idxOf_cons_self]
    simp; omega
   rw [if_pos hm, hi]
   obtain ⟨o, ho⟩ : ∃ o, vs[k]? = some o := ⟨vs[k]'(by omega), by simp⟩
   refine rgn [o.enc, v.enc] [[], [], [], [], [3, 6, 25, 26], [3, 6]] ?_
   iterate 6 refine op1 tok ?_ (hv := by first | with_reducible exact True.intro | (first | omega | (simp [ho]; done) | (simp [ho, Val.cells, V.fitsL]; done); done) | omega | simp | (simp +contextual; omega))
   refine qA ?_
   refine rgn [] [[], [6]] ?_
   iterate 2 refine op1 tok ?_
   refine qA ?_
   exact AW.ret zX
  ·intro h21
   try simp at h21
   have hno2 : key ∉ ks.take (k + 1) := by
    rw [List.take_add_one, hx]
    simp only [Option.toList_some, List.mem_append, List.mem_singleton, not_or]
    exact ⟨hno, fun e => h21 e.symm⟩
   refine AW.skip ?_
   refine rgz [] [[], [], [1, 3, 5, 6, 7]] ?_
   iterate 3 refine op1 tok ?_
   refine qA ?_
   exact ⟨k + 1, ⟨by omega, hno2⟩, by omega, qB (by simp), rfl, by simp, by simp⟩
 ·intro h12
  try simp at h12
  rw [List.take_of_length_le (by omega)] at hno
  rw [if_neg hno]
  refine AW.exit ?_
  simp
  refine rgn [.str key] [[], [], [], [], [3, 5, 6, 32], [], [3, 5, 6]] ?_
  iterate 7 refine op1 tok ?_
  refine qA ?_
  refine rgn [v.enc] [[], [], [], [], [3, 6, 38], [], [3, 6]] ?_
  iterate 7 refine op1 tok ?_
  refine qA ?_
  refine rgn [] [[], [6]] ?_
  iterate 2 refine op1 tok ?_
  refine qA ?_
  exact AW.ret zX
end Go.Proofs.YtdojfdaglbphlaaGreatDoor
namespace Go.Proofs.YtdojfdaglbphlaaGreatDoor
open Sy Go
set_option maxRecDepth 100000
set_option maxHeartbeats 4000000
set_option linter.unusedSimpArgs false
set_option linter.unusedVariables false
variable {G : qQ}
attribute [local simp] wK
theorem uV {s : List UInt8} {q : RQ} {k : Nat} (h : q.pos ≤ s.length + k) : (blQ s q).pos ≤ s.length + k := by
 rcases Nat.lt_or_ge s.length q.pos with h1 | h1
 ·have : s.drop q.pos = [] := List.drop_of_length_le (by omega)
  simp only [blQ, this]; show q.pos + 0 ≤ _; omega
 ·have := (qJC h1).2; omega
theorem qKJ (s : List UInt8) (q : RQ) : q.pos ≤ (blQ s q).pos := by simp only [blQ]; omega
theorem qNP {s : List UInt8} {q : RQ} (h : nxQ s q ≠ 0) : q.pos < s.length := by
 rcases Nat.lt_or_ge q.pos s.length with h1 | h1
 ·exact h1
 ·exfalso; apply h; unfold nxQ; rw [List.getD_eq_getElem?_getD, List.getElem?_eq_none h1]; rfl
theorem qES {s : List UInt8} {q : RQ} (h : q.pos ≤ s.length) : (zK s q).1.pos ≤ s.length ∧ q.pos ≤ (zK s q).1.pos := by
 have hp := qBR (s.drop q.pos)
 have hk := qMW (s.drop q.pos)
 rw [List.length_drop] at hp hk
 unfold zK
 split
 ·simp only; omega
 ·simp only; omega
theorem qPI {s : List UInt8} {q : RQ} {c : UInt8} {many k : Nat} (hc : c ≠ 0) (h : q.pos ≤ s.length + k) : (qBZ s c many q).2.pos ≤ s.length + k + 1 ∧ ((qBZ s c many q).2.bad = false → (qBZ s c many q).2.pos ≤ s.length) ∧ q.pos + 1 ≤ (qBZ s c many q).2.pos := by
 have h1 := uV (s := s) (q := { q with big := Bool.or q.big (decide (200 < many)) }) (k := k) h
 have h2 := qKJ s { q with big := Bool.or q.big (decide (200 < many)) }
 unfold qBZ
 simp only at h1 h2 ⊢
 generalize blQ s { q with big := Bool.or q.big (decide (200 < many)) } = a at *
 split
 ·rename_i e
  have := qNP (s := s) (q := a) (by rw [e]; exact hc)
  simp only [wK]; exact ⟨by omega, fun _ => by omega, by omega⟩
 ·refine ⟨by simp only; omega, fun hb => ?_, by simp only; omega⟩
  simp only [Bool.or_eq_false_iff, decide_eq_false_iff_not, Decidable.not_not] at hb
  have := qNP (s := s) (q := a) (by rw [hb.2]; decide)
  simp only; omega
theorem zLK {s : List UInt8} {q : RQ} (h : q.pos ≤ s.length) : (qIM s q).1.pos ≤ s.length + 1 ∧ ((qIM s q).1.bad = false → (qIM s q).1.pos ≤ s.length) ∧ q.pos + 1 ≤ (qIM s q).1.pos := by
 obtain ⟨h1, h2⟩ := qES h
 have h3 := uV (s := s) (q := (zK s q).1) (k := 0) (by omega)
 have h4 := qKJ s (zK s q).1
 unfold qIM
 simp only
 generalize blQ s (zK s q).1 = a at *
 refine ⟨by omega, fun hb => ?_, by omega⟩
 simp only [Bool.or_eq_false_iff, decide_eq_false_iff_not, Decidable.not_not] at hb
 have := qNP (s := s) (q := a) (by rw [hb.2]; decide)
 omega
theorem qJZ {s : List UInt8} {obj : Bool} {q : RQ} (h : q.pos ≤ s.length) : (yY s obj q).1.pos ≤ s.length + 1 ∧ ((yY s obj q).1.bad = false → (yY s obj q).1.pos ≤ s.length) ∧ q.pos ≤ (yY s obj q).1.pos := by
 have h1 := uV (s := s) (q := q) (k := 0) (by omega)
 have h2 := qKJ s q
 unfold yY
 split
 ·obtain ⟨h3, h4, h5⟩ := zLK (s := s) (q := blQ s q) (by omega)
  exact ⟨h3, h4, by omega⟩
 ·exact ⟨by simp only; omega, fun _ => by simp only; omega, h2⟩
theorem zHC {s : List UInt8} {n : Nat} {q : RQ} {d : Nat} {obj : Bool} {c : UInt8} {many : Nat} {ks : List (List UInt8)} {vs : List Val} (h : q.bad = true) : (yO s n q d obj c many ks vs).1.pos = q.pos := by
 cases n with
 | zero => simp [yO]
 | succ n => rw [xL, if_pos h]
theorem zRP (s : List UInt8) : ∀ n : Nat, (∀ q d, q.pos ≤ s.length → (kM s n q d).1.pos ≤ s.length + n + 1 ∧ ((kM s n q d).1.bad = false → (kM s n q d).1.pos ≤ s.length)) ∧
  (∀ q d obj c many ks vs, c ≠ 0 → q.pos ≤ s.length → (yO s n q d obj c many ks vs).1.pos ≤ s.length + n + 1 ∧ ((yO s n q d obj c many ks vs).1.bad = false → (yO s n q d obj c many ks vs).1.pos ≤ s.length))
 | 0 => ⟨fun q d h => by simp only [kM]; exact ⟨by omega, fun _ => h⟩, fun q d obj c many ks vs _ h => by simp only [yO]; exact ⟨by omega, fun _ => h⟩⟩
 | n + 1 => by
  obtain ⟨ih1, ih2⟩ := zRP s n
  refine ⟨fun q d h => ?_, fun q d obj c many ks vs hc h => ?_⟩
  ·have hE : (zR s q d).pos ≤ s.length := by have := uV (s := s) (q := q) (k := 0) (by omega); exact this
   rw [qJG]
   generalize zR s q d = E at *
   have hk : ∀ obj c, c ≠ 0 → E.pos < s.length → (xS s n E d obj c).1.pos ≤ s.length + n + 1 ∧ ((xS s n E d obj c).1.bad = false → (xS s n E d obj c).1.pos ≤ s.length) := fun obj c hc hl => by
    have h1 := uV (s := s) (q := wK E 1) (k := 0) (by simp only [wK]; omega)
    unfold xS
    split
    ·rename_i e
     have := qNP (s := s) (q := blQ s (wK E 1)) (by rw [e]; exact hc)
     simp only [wK] at this ⊢; exact ⟨by omega, fun _ => by omega⟩
    ·exact ih2 _ _ _ _ _ _ _ hc h1
   split
   ·have := (qES hE).1
    exact ⟨by simp only; omega, fun _ => by simp only; omega⟩
   ·split
    ·rename_i e
     have := hk false 93 (by decide) (qNP (by rw [e]; decide))
     exact ⟨by simp only; omega, this.2⟩
    ·split
     ·rename_i e
      have := hk true 125 (by decide) (qNP (by rw [e]; decide))
      exact ⟨by simp only; omega, this.2⟩
     ·split
      ·have := (qXV (s.drop E.pos)).2
       rw [List.length_drop] at this
       have : (vB s E).1.pos ≤ s.length := by simp only [vB]; omega
       exact ⟨by omega, fun _ => this⟩
      ·have hw : ∀ w : List UInt8, (uW s w E).2.pos ≤ s.length := fun w => by
        unfold uW
        split
        ·rename_i e
         have := congrArg List.length e
         simp only [wK]; simp at this; omega
        ·exact hE
       have : (qDB s E).1.pos ≤ s.length := by
        unfold qDB
        split
        ·exact hw _
        ·split
         ·exact hw _
         ·split
          ·exact hw _
          ·exact hE
       exact ⟨by omega, fun _ => this⟩
  ·obtain ⟨g1, g2, g3⟩ := qJZ (s := s) (obj := obj) (q := q) h
   rw [xL]
   split
   ·exact ⟨by simp only; omega, fun _ => h⟩
   ·split
    ·rename_i hb
     exact ⟨by simp only; omega, fun h' => by simp only at h'; rw [hb] at h'; cases h'⟩
    ·rename_i hb
     have g := g2 (by simpa using hb)
     obtain ⟨v1, v2⟩ := ih1 (yY s obj q).1 (d + 1) g
     generalize kM s n (yY s obj q).1 (d + 1) = A at *
     obtain ⟨b1, b2, b3⟩ := qPI (s := s) (q := A.1) (c := c) (many := many + 1) (k := n + 1) hc (by omega)
     split
     ·exact ⟨by simp only; omega, b2⟩
     ·by_cases hx : (qBZ s c (many + 1) A.1).2.bad = true
      ·rw [zHC hx]
       exact ⟨by omega, fun h' => by rw [qEY hx] at h'; cases h'⟩
      ·have := ih2 (qBZ s c (many + 1) A.1).2 d obj c (many + 1) (qPY obj ks vs (yY s obj q).2 A.2).1 (qPY obj ks vs (yY s obj q).2 A.2).2 hc (b2 (by simpa using hx))
       exact ⟨by omega, this.2⟩
theorem qMJ {s : List UInt8} {q : RQ} (n d : Nat) (h1 : q.bad = false) (h2 : q.pos ≤ s.length) (h : (kM s n q d).1.bad = false) : q.pos < (kM s n q d).1.pos ∧ (kM s n q d).1.pos ≤ s.length ∧ (kM s n q d).1.nodes + (s.length - (kM s n q d).1.pos) ≤ q.nodes + (s.length - q.pos) := by
 have h0 : SameR s q ⟨s.drop q.pos, q.nodes, false, q.deep, q.big⟩ := ⟨rfl, h2, rfl, h1, rfl, rfl, rfl⟩
 obtain ⟨e1, e2⟩ := (qRF s n).1 q _ d h0.bl
 rw [h] at e1
 obtain ⟨e3, _⟩ := e2 e1.symm
 have l1 := ((zWK n).1 ⟨s.drop q.pos, q.nodes, false, q.deep, q.big⟩ d).2 e1.symm
 have l2 := ((zQD n).1 ⟨s.drop q.pos, q.nodes, false, q.deep, q.big⟩ d e1.symm).2
 have e4 := congrArg List.length e3.left
 have e5 := e3.le
 have e6 := e3.nodes
 simp only [List.length_drop] at l1 l2 e4
 omega
def qMC (G : qQ) (s : List UInt8) (N d : Nat) : Prop := ∀ (m : Nat) (q : RQ), m < N → q.bad = false → q.pos ≤ s.length → 2 * (s.length - q.pos) + 2 ≤ m → q.nodes + (s.length - q.pos) ≤ 10000000000 → d + (s.length - q.pos) ≤ 10000000000 →
 AX Tryz.prog G 131 [.ptr 2 0, .p (.int .i64 d)] [(2, .vars 137 (rqC s q))] (.agg (kM s m q d).2.cells) [2] [(2, .vars 137 (rqC s (kM s m q d).1))]
theorem zLI (N : Nat) (s : List UInt8) (q : RQ) (d : Nat) (hs : s.length ≤ 100000) (hp : q.pos < s.length) (hb0 : q.bad = false) (hN : 2 * (s.length - q.pos) + 1 ≤ N) (hN2 : N ≤ 1000000) (hk : q.nodes + (s.length - q.pos) ≤ 10000000001) (hd : d + (s.length - q.pos) ≤ 10000000000) (hv : qMC G s N (d + 1)) : AX Tryz.prog G 183 [.ptr 2 0, .agg [.p (.int .i64 6), .p (.int .u64 0), .p (.bool false), .p (.str []), .p (.int .i64 0), .p (.str []), .nilsl, .nilsl, .p (.int .i64 0)], .p (.int .i64 d), .p (.int .u8 93)] [(2, .vars 137 (rqC s q))] (.agg (Val.mk 6 0 dc0 [] (xS s N q d false 93).2.1 (xS s N q d false 93).2.2 0).cells) [2] [(2, .vars 137 (rqC s (xS s N q d false 93).1))] := by
 refine AX.introU tok 900 Tryz.func183 (by kernel_rfl) rfl rfl ?_
 simp only [Tryz.f183, qJ, List.map_cons, List.map_nil]
 have hM : xS s N q d false 93 = if nxQ s (blQ s (wK q 1)) = 93 then (wK (blQ s (wK q 1)) 1, [], []) else yO s N (blQ s (wK q 1)) d false 93 0 [] [] := rfl
 rw [hM]
 have hbx := jK (G := G) s (wK q 1) (by omega) (by simp only [wK]; omega)
 have h1 := uV (s := s) (q := wK q 1) (k := 0) (by simp only [wK]; omega)
 have h2 : q.pos + 1 ≤ (blQ s (wK q 1)).pos := qKJ s (wK q 1)
 have h3 : (blQ s (wK q 1)).bad = false := hb0
 have h4 : (blQ s (wK q 1)).nodes = q.nodes := rfl
 generalize blQ s (wK q 1) = Q at *
 have hnx := qCN (G := G) s Q (by omega) (by omega)
 have lC : (((nxQ s Q).toNat : Int) = 93) ↔ nxQ s Q = 93 := yQ _ 93 (by decide)
 refine rgn [] [[], [0, 2, 3, 5, 8]] ?_
 iterate 2 refine op1 tok ?_
 refine qA ?_
 refine AW.beginBox 905 3 6 9 1 (by simp; exact ⟨rfl, rfl⟩) (by simp) (by simp) (by conv => lhs; simp) ?_
 refine AW.beginBox 905 8 7 31 9 (by simp; exact ⟨rfl, rfl⟩) (by simp) (by simp) (by conv => lhs; simp) ?_
 refine rgn [] [[], [], [], [], [], [0, 2, 3, 5, 8, 17, 18], [], [0, 2, 3, 5, 8]] ?_
 iterate 8 refine op1 tok ?_
 refine qA ?_
 refine rgn [] [[]] ?_
 refine op1 tok ?_
 refine qV ?_
 refine qC.stepK [0, 2, 3, 5, 8] (yI rfl hbx (by simp)) (by conv => lhs; simp) rfl ?_
 refine qC.nil ?_
 refine AW.seq ?_
 refine rgn [] [[]] ?_
 refine op1 tok ?_
 refine qV ?_
 refine qC.stepK [0, 2, 3, 5, 8, 23] (yI rfl hnx (by simp)) (by conv => lhs; simp) rfl ?_
 refine qC.run [[], [0, 2, 3, 5, 8, 25]] ?_
 iterate 2 refine op1 tok ?_
 refine qA ?_
 refine cnd ?_ ?_
 ·intro h25
  try simp at h25
  rw [if_pos (lC.1 h25)]
  refine rgn [] [[], [], [], [], [5, 8, 26, 30], [], [], [5, 8]] ?_
  iterate 8 refine op1 tok ?_
  refine qA ?_
  refine AW.freeze 3 ?_
  refine AW.freeze 8 ?_
  refine rgn [] [[], [8]] ?_
  iterate 2 refine op1 tok ?_
  refine qA ?_
  exact AW.ret (zX (k := by simp [dc0]))
 ·intro h25
  try simp at h25
  rw [if_neg (fun e => h25 (lC.2 e))]
  refine AW.skip ?_
  refine rgn [] [[]] ?_
  refine op1 tok ?_
  refine qA ?_
  refine AW.seq ?_
  refine AW.block ?_
  refine AW.loop (α := Nat × RQ × Nat × List (List UInt8) × List Val) (fun a => yO s N Q d false 93 0 [] [] = yO s a.1 a.2.1 d false 93 a.2.2.1 a.2.2.2.1 a.2.2.2.2 ∧ 1 ≤ a.1 ∧ a.1 ≤ N ∧ (a.2.1.bad = false → 2 * (s.length - a.2.1.pos) + 3 ≤ a.1 ∧ a.2.1.pos ≤ s.length ∧ a.2.1.nodes + (s.length - a.2.1.pos) ≤ 10000000000 ∧ q.pos + 1 ≤ a.2.1.pos) ∧ a.2.2.1 + a.1 ≤ N ∧ a.2.2.2.2.length + a.1 ≤ N) (fun a => ⟨qW 117 [(0, .ptr 2 0), (2, .p (.int .i64 d)), (3, .p (.int .u8 93)), (5, .ptr 905 0), (8, .ptr 908 0), (9, .p (.int .i64 a.2.2.1))], [2], [(2, .vars 137 (rqC s a.2.1)), (905, .vars 31 [.p (.int .i64 6), .p (.int .u64 0), .p (.bool false), .p (.str []), .p (.int .i64 0), .p (.str []), .ms 3, .ms 8, .p (.int .i64 0)]), (908, .vars 31 [.p (.int .i64 0), .p (.int .u64 0), .p (.bool false), .p (.str []), .p (.int .i64 0), .p (.str []), .nilsl, .nilsl, .p (.int .i64 0)]), (3, .row 9 1 (a.2.2.2.1.map PD.str)), (8, .row 31 9 (a.2.2.2.2.map Val.enc))], 900⟩) (fun a => a.1) ((N, Q, 0, [], [])) ⟨rfl, by simp only; omega, by simp, fun _ => by simp only; omega, by simp, by simp⟩ ⟨qB (by simp), rfl, by simp, by simp⟩ ?_
  rintro ⟨n, p, many, ks, vs⟩ ⟨hq, hf, hfN, hpl, hml, hvl⟩
  simp only at hq hf hfN hpl hml hvl
  rw [hq]
  clear hq
  obtain ⟨n, rfl⟩ : ∃ g, n = g + 1 := ⟨n - 1, by omega⟩
  rw [xL]
  refine AW.seq ?_
  refine rgn [] [[], [], [], [], [0, 2, 3, 5, 8, 9, 38]] ?_
  iterate 5 refine op1 tok ?_
  refine qA ?_
  refine cnd ?_ ?_
  ·intro h38
   try simp at h38
   have hb : p.bad = false := by simpa using h38
   rw [if_neg (show ¬ p.bad = true by rw [hb]; simp)]
   obtain ⟨f1, f2, f3, f4⟩ := hpl hb
   have hbl1 := jK (G := G) s p (by omega) (by omega)
   have hh := qJZ (s := s) (obj := false) (q := p) f2
   have hd1 : yY s false p = (blQ s p, []) := rfl
   rw [hd1] at hh ⊢
   have hbn : (blQ s p).nodes = p.nodes := rfl
   simp only at hh ⊢
   generalize blQ s p = H at *
   have hmm := fun (A : RQ × Val) => (show qPY false ks vs [] A.2 = (ks, vs ++ [A.2]) from rfl)
   simp only [hmm]
   refine AW.skip ?_
   refine AW.block ?_
   refine rgn [] [[]] ?_
   refine op1 tok ?_
   refine qV ?_
   refine qC.stepK [0, 2, 3, 5, 8, 9] (yI rfl hbl1 (by simp)) (by conv => lhs; simp) rfl ?_
   refine qC.nil ?_
   refine rgn [] [[]] ?_
   refine op1 tok ?_
   refine qA ?_
   refine AW.seq ?_
   refine rgn [] [[], [], [0, 2, 3, 5, 8, 9, 10, 43]] ?_
   iterate 3 refine op1 tok ?_
   refine qA ?_
   refine cnd ?_ ?_
   ·intro h43
    try simp at h43
   ·intro h43
    try simp at h43
    refine AW.skip ?_
    refine AW.seq ?_
    refine rgn [] [[], [], [], [0, 2, 3, 5, 8, 9, 10, 64]] ?_
    iterate 4 refine op1 tok ?_
    refine qA ?_
    refine cnd ?_ ?_
    ·intro h64
     try simp at h64
     rw [if_pos h64]
     refine AW.freeze 3 ?_
     refine AW.freeze 8 ?_
     refine rgn [] [[], [8]] ?_
     iterate 2 refine op1 tok ?_
     refine qA ?_
     exact AW.ret (zX (k := by simp [dc0]))
    ·intro h64
     try simp at h64
     have hhb : H.bad = false := by simpa using h64
     rw [if_neg (show ¬ H.bad = true by rw [hhb]; simp)]
     have g2 := hh.2.1 hhb
     have hvn := hv n H (by omega) hhb g2 (by (try simp only); omega) (by (try simp only); omega) (by (try simp only); omega)
     have hps := ((zRP s n).1 H (d + 1) g2).1
     have hvf := qMJ (s := s) (q := H) n (d + 1) hhb g2
     rw [show (((d + 1 : Nat) : Int)) = (d : Int) + 1 from by omega] at hvn
     generalize kM s n H (d + 1) = A at *
     obtain ⟨a1, v⟩ := A
     simp only at hvn hps hvf ⊢
     have hdm : decide ((200 : Int) < (many : Int) + 1) = decide (200 < many + 1) := by rw [decide_eq_decide]; omega
     have hbp := qPI (s := s) (q := a1) (c := 93) (many := many + 1) (k := n + 1) (by decide) (by omega)
     have hbeh : qBZ s 93 (many + 1) a1 = if nxQ s (blQ s ⟨a1.pos, a1.nodes, a1.bad, a1.deep, Bool.or a1.big (decide (200 < many + 1))⟩) = 93 then (true, wK (blQ s ⟨a1.pos, a1.nodes, a1.bad, a1.deep, Bool.or a1.big (decide (200 < many + 1))⟩) 1) else (false, { (blQ s ⟨a1.pos, a1.nodes, a1.bad, a1.deep, Bool.or a1.big (decide (200 < many + 1))⟩) with pos := (blQ s ⟨a1.pos, a1.nodes, a1.bad, a1.deep, Bool.or a1.big (decide (200 < many + 1))⟩).pos + 1, bad := Bool.or (blQ s ⟨a1.pos, a1.nodes, a1.bad, a1.deep, Bool.or a1.big (decide (200 < many + 1))⟩).bad (decide (nxQ s (blQ s ⟨a1.pos, a1.nodes, a1.bad, a1.deep, Bool.or a1.big (decide (200 < many + 1))⟩) ≠ 44)) }) := rfl
     rw [hbeh] at hbp
     rw [hbeh]
     have hbl2 := jK (G := G) s ⟨a1.pos, a1.nodes, a1.bad, a1.deep, Bool.or a1.big (decide (200 < many + 1))⟩ (by omega) (by simp only; omega)
     have hx1 := uV (s := s) (q := ⟨a1.pos, a1.nodes, a1.bad, a1.deep, Bool.or a1.big (decide (200 < many + 1))⟩) (k := n + 1) (by simp only; omega)
     have hx2 : (blQ s ⟨a1.pos, a1.nodes, a1.bad, a1.deep, Bool.or a1.big (decide (200 < many + 1))⟩).bad = a1.bad := rfl
     have hx3 : (blQ s ⟨a1.pos, a1.nodes, a1.bad, a1.deep, Bool.or a1.big (decide (200 < many + 1))⟩).nodes = a1.nodes := rfl
     generalize blQ s ⟨a1.pos, a1.nodes, a1.bad, a1.deep, Bool.or a1.big (decide (200 < many + 1))⟩ = B at *
     have hnx2 := qCN (G := G) s B (by omega) (by omega)
     have l44 : (((nxQ s B).toNat : Int) = 44) ↔ nxQ s B = 44 := yQ _ 44 (by decide)
     have lC2 : (((nxQ s B).toNat : Int) = 93) ↔ nxQ s B = 93 := yQ _ 93 (by decide)
     generalize nxQ s B = c at *
     refine AW.skip ?_
     refine rgn [] [[], [], []] ?_
     iterate 3 refine op1 tok ?_
     refine qV ?_
     refine qC.stepK [0, 2, 3, 5, 8, 9, 10, 69] (yI rfl hvn (by simp)) (by conv => lhs; simp) rfl ?_
     refine qC.run [[], [0, 2, 3, 5, 8, 9, 10, 11]] ?_
     iterate 2 refine op1 tok ?_
     refine qA ?_
     refine rgn [] [[], [], [0, 2, 3, 5, 8, 9, 10, 11]] ?_
     iterate 3 refine op1 tok ?_
     refine qA ?_
     refine rgn [] [[], [], [], [], [], [0, 2, 3, 5, 8, 9, 10, 11, 72, 77], [], [], [], [0, 2, 3, 5, 8, 9, 10, 11, 80, 81], [], [0, 2, 3, 5, 8, 9, 10, 11]] ?_
     iterate 6 refine op1 tok ?_ (h := by intro C; conv => lhs; simp [hdm])
     iterate 2 refine op2 tok ?_ (h := by intro C; conv => lhs; simp [hdm])
     iterate 4 refine op1 tok ?_ (h := by intro C; conv => lhs; simp [hdm])
     refine qA ?_
     refine AW.seq ?_
     refine rgn [] [[], [], [0, 2, 3, 5, 8, 9, 10, 11, 85]] ?_
     iterate 3 refine op1 tok ?_
     refine qA ?_
     refine cnd ?_ ?_
     ·intro h85
      try simp at h85
     ·intro h85
      try simp at h85
      refine rgz [v.enc] [[], [], [], [], [0, 2, 3, 5, 8, 9, 94], [], [0, 2, 3, 5, 8, 9]] ?_
      iterate 7 refine op1 tok ?_
      refine qA ?_
      refine rgn [] [[]] ?_
      refine op1 tok ?_
      refine qV ?_
      refine qC.stepK [0, 2, 3, 5, 8, 9] (yI rfl hbl2 (by simp)) (by conv => lhs; simp) rfl ?_
      refine qC.nil ?_
      refine rgn [] [[]] ?_
      refine op1 tok ?_
      refine qV ?_
      refine qC.stepK [0, 2, 3, 5, 8, 9, 99] (yI rfl hnx2 (by simp)) (by conv => lhs; simp) rfl ?_
      refine qC.run [[0, 2, 3, 5, 8, 9, 12]] ?_
      refine op1 tok ?_
      refine qA ?_
      refine rgn [] [[], [], [], [], [], [0, 2, 3, 5, 8, 9, 12, 104, 105], [], [0, 2, 3, 5, 8, 9, 12]] ?_
      iterate 8 refine op1 tok ?_
      refine qA ?_
      refine AW.seq ?_
      refine rgn [] [[], [], [0, 2, 3, 5, 8, 9, 12, 109]] ?_
      iterate 3 refine op1 tok ?_
      refine qA ?_
      refine cnd ?_ ?_
      ·intro h109
       try simp at h109
       rw [if_pos (lC2.1 h109)]
       simp only [if_true]
       refine AW.freeze 3 ?_
       refine AW.freeze 8 ?_
       refine rgn [] [[], [8]] ?_
       iterate 2 refine op1 tok ?_
       refine qA ?_
       exact AW.ret (zX (k := by simp [dc0]))
      ·intro h109
       try simp at h109
       rw [if_neg (fun e => h109 (lC2.2 e))]
       rw [if_neg (fun e => h109 (lC2.2 e))] at hbp
       simp only [Bool.false_eq_true, if_false]
       simp only at hbp
       refine AW.skip ?_
       refine rgn [] [[], [0, 2, 3, 5, 8, 9, 112]] ?_
       iterate 2 refine op1 tok ?_
       refine qA ?_
       refine cnd ?_ ?_
       ·intro h112
        try simp at h112
        have hn4 : c ≠ 44 := fun e => h112 (l44.2 e)
        simp only [decide_eq_true (show c ≠ 44 from hn4), Bool.or_true]
        refine rgz [] [[], [], [], [0, 2, 3, 5, 8, 9]] ?_
        iterate 4 refine op1 tok ?_
        refine qA ?_
        exact ⟨(n, ⟨B.pos + 1, B.nodes, true, B.deep, B.big⟩, many + 1, ks, vs ++ [v]), ⟨rfl, by omega, by omega, fun h => (by cases h), by simp only; omega, by simp; omega⟩, by simp only; omega, qB (by simp), rfl, by simp, by simp⟩
       ·intro h112
        try simp at h112
        have hn4 : c = 44 := l44.1 (by omega)
        have hd0 : decide (c ≠ 44) = false := by simp [hn4]
        rw [hd0] at hbp ⊢
        simp only [Bool.or_false] at hbp ⊢
        have hinv : B.bad = false → 2 * (s.length - (B.pos + 1)) + 3 ≤ n ∧ B.pos + 1 ≤ s.length ∧ B.nodes + (s.length - (B.pos + 1)) ≤ 10000000000 ∧ q.pos + 1 ≤ B.pos + 1 := fun h => by
         rw [hx2] at h
         have hvf := hvf h
         have hb1 := hbp.2.1 (by rw [hx2]; exact h)
         have hb2 := hbp.2.2
         omega
        refine AW.skip ?_
        exact ⟨(n, ⟨B.pos + 1, B.nodes, B.bad, B.deep, B.big⟩, many + 1, ks, vs ++ [v]), ⟨rfl, by omega, by omega, hinv, by simp only; omega, by simp; omega⟩, by simp only; omega, qB (by simp), rfl, by simp, by simp⟩
  ·intro h38
   try simp at h38
   rw [if_pos (show p.bad = true by simpa using h38)]
   refine AW.exit ?_
   simp
   refine AW.freeze 3 ?_
   refine AW.freeze 8 ?_
   refine rgn [] [[], [8]] ?_
   iterate 2 refine op1 tok ?_
   refine qA ?_
   exact AW.ret (zX (k := by simp [dc0]))
theorem zLH (N : Nat) (s : List UInt8) (q : RQ) (d : Nat) (hs : s.length ≤ 100000) (hp : q.pos < s.length) (hb0 : q.bad = false) (hN : 2 * (s.length - q.pos) + 1 ≤ N) (hN2 : N ≤ 1000000) (hk : q.nodes + (s.length - q.pos) ≤ 10000000001) (hd : d + (s.length - q.pos) ≤ 10000000000) (hv : qMC G s N (d + 1)) (hU : qPM G s) : AX Tryz.prog G 183 [.ptr 2 0, .agg [.p (.int .i64 7), .p (.int .u64 0), .p (.bool false), .p (.str []), .p (.int .i64 0), .p (.str []), .nilsl, .nilsl, .p (.int .i64 0)], .p (.int .i64 d), .p (.int .u8 125)] [(2, .vars 137 (rqC s q))] (.agg (Val.mk 7 0 dc0 [] (xS s N q d true 125).2.1 (xS s N q d true 125).2.2 0).cells) [2] [(2, .vars 137 (rqC s (xS s N q d true 125).1))] := by
 refine AX.introU tok 900 Tryz.func183 (by kernel_rfl) rfl rfl ?_
 simp only [Tryz.f183, qJ, List.map_cons, List.map_nil]
 have hM : xS s N q d true 125 = if nxQ s (blQ s (wK q 1)) = 125 then (wK (blQ s (wK q 1)) 1, [], []) else yO s N (blQ s (wK q 1)) d true 125 0 [] [] := rfl
 rw [hM]
 have hbx := jK (G := G) s (wK q 1) (by omega) (by simp only [wK]; omega)
 have h1 := uV (s := s) (q := wK q 1) (k := 0) (by simp only [wK]; omega)
 have h2 : q.pos + 1 ≤ (blQ s (wK q 1)).pos := qKJ s (wK q 1)
 have h3 : (blQ s (wK q 1)).bad = false := hb0
 have h4 : (blQ s (wK q 1)).nodes = q.nodes := rfl
 generalize blQ s (wK q 1) = Q at *
 have hnx := qCN (G := G) s Q (by omega) (by omega)
 have lC : (((nxQ s Q).toNat : Int) = 125) ↔ nxQ s Q = 125 := yQ _ 125 (by decide)
 refine rgn [] [[], [0, 2, 3, 5, 8]] ?_
 iterate 2 refine op1 tok ?_
 refine qA ?_
 refine AW.beginBox 905 3 6 9 1 (by simp; exact ⟨rfl, rfl⟩) (by simp) (by simp) (by conv => lhs; simp) ?_
 refine AW.beginBox 905 8 7 31 9 (by simp; exact ⟨rfl, rfl⟩) (by simp) (by simp) (by conv => lhs; simp) ?_
 refine rgn [] [[], [], [], [], [], [0, 2, 3, 5, 8, 17, 18], [], [0, 2, 3, 5, 8]] ?_
 iterate 8 refine op1 tok ?_
 refine qA ?_
 refine rgn [] [[]] ?_
 refine op1 tok ?_
 refine qV ?_
 refine qC.stepK [0, 2, 3, 5, 8] (yI rfl hbx (by simp)) (by conv => lhs; simp) rfl ?_
 refine qC.nil ?_
 refine AW.seq ?_
 refine rgn [] [[]] ?_
 refine op1 tok ?_
 refine qV ?_
 refine qC.stepK [0, 2, 3, 5, 8, 23] (yI rfl hnx (by simp)) (by conv => lhs; simp) rfl ?_
 refine qC.run [[], [0, 2, 3, 5, 8, 25]] ?_
 iterate 2 refine op1 tok ?_
 refine qA ?_
 refine cnd ?_ ?_
 ·intro h25
  try simp at h25
  rw [if_pos (lC.1 h25)]
  refine rgn [] [[], [], [], [], [5, 8, 26, 30], [], [], [5, 8]] ?_
  iterate 8 refine op1 tok ?_
  refine qA ?_
  refine AW.freeze 3 ?_
  refine AW.freeze 8 ?_
  refine rgn [] [[], [8]] ?_
  iterate 2 refine op1 tok ?_
  refine qA ?_
  exact AW.ret (zX (k := by simp [dc0]))
 ·intro h25
  try simp at h25
  rw [if_neg (fun e => h25 (lC.2 e))]
  refine AW.skip ?_
  refine rgn [] [[]] ?_
  refine op1 tok ?_
  refine qA ?_
  refine AW.seq ?_
  refine AW.block ?_
  refine AW.loop (α := Nat × RQ × Nat × List (List UInt8) × List Val) (fun a => yO s N Q d true 125 0 [] [] = yO s a.1 a.2.1 d true 125 a.2.2.1 a.2.2.2.1 a.2.2.2.2 ∧ 1 ≤ a.1 ∧ a.1 ≤ N ∧ (a.2.1.bad = false → 2 * (s.length - a.2.1.pos) + 3 ≤ a.1 ∧ a.2.1.pos ≤ s.length ∧ a.2.1.nodes + (s.length - a.2.1.pos) ≤ 10000000000 ∧ q.pos + 1 ≤ a.2.1.pos) ∧ a.2.2.1 + a.1 ≤ N ∧ a.2.2.2.2.length + a.1 ≤ N ∧ a.2.2.2.1.length = a.2.2.2.2.length) (fun a => ⟨qW 117 [(0, .ptr 2 0), (2, .p (.int .i64 d)), (3, .p (.int .u8 125)), (5, .ptr 905 0), (8, .ptr 908 0), (9, .p (.int .i64 a.2.2.1))], [2], [(2, .vars 137 (rqC s a.2.1)), (905, .vars 31 [.p (.int .i64 7), .p (.int .u64 0), .p (.bool false), .p (.str []), .p (.int .i64 0), .p (.str []), .ms 3, .ms 8, .p (.int .i64 0)]), (908, .vars 31 [.p (.int .i64 0), .p (.int .u64 0), .p (.bool false), .p (.str []), .p (.int .i64 0), .p (.str []), .nilsl, .nilsl, .p (.int .i64 0)]), (3, .row 9 1 (a.2.2.2.1.map PD.str)), (8, .row 31 9 (a.2.2.2.2.map Val.enc))], 900⟩) (fun a => a.1) ((N, Q, 0, [], [])) ⟨rfl, by simp only; omega, by simp, fun _ => by simp only; omega, by simp, by simp, rfl⟩ ⟨qB (by simp), rfl, by simp, by simp⟩ ?_
  rintro ⟨n, p, many, ks, vs⟩ ⟨hq, hf, hfN, hpl, hml, hvl, hkl⟩
  simp only at hq hf hfN hpl hml hvl hkl
  rw [hq]
  clear hq
  obtain ⟨n, rfl⟩ : ∃ g, n = g + 1 := ⟨n - 1, by omega⟩
  rw [xL]
  refine AW.seq ?_
  refine rgn [] [[], [], [], [], [0, 2, 3, 5, 8, 9, 38]] ?_
  iterate 5 refine op1 tok ?_
  refine qA ?_
  refine cnd ?_ ?_
  ·intro h38
   try simp at h38
   have hb : p.bad = false := by simpa using h38
   rw [if_neg (show ¬ p.bad = true by rw [hb]; simp)]
   obtain ⟨f1, f2, f3, f4⟩ := hpl hb
   have hbl1 := jK (G := G) s p (by omega) (by omega)
   have hh := qJZ (s := s) (obj := true) (q := p) f2
   have hp1 := uV (s := s) (q := p) (k := 0) (by omega)
   have hd1 : yY s true p = qIM s (blQ s p) := rfl
   have hqa := qNI (G := G) s (blQ s p) (by omega) (by omega) hU
   have hqp := qES (s := s) (q := blQ s p) hp1
   have hky : qIM s (blQ s p) = ({ (blQ s (zK s (blQ s p)).1) with pos := (blQ s (zK s (blQ s p)).1).pos + 1, bad := Bool.or (blQ s (zK s (blQ s p)).1).bad (decide (nxQ s (blQ s (zK s (blQ s p)).1) ≠ 58)) }, (zK s (blQ s p)).2) := rfl
   have hqn : (zK s (blQ s p)).1.nodes = p.nodes := by unfold zK; split <;> rfl
   have hbl3 := jK (G := G) s (zK s (blQ s p)).1 (by omega) (by omega)
   have hb3 := uV (s := s) (q := (zK s (blQ s p)).1) (k := 0) (by omega)
   have hbn3 : (blQ s (zK s (blQ s p)).1).nodes = (zK s (blQ s p)).1.nodes := rfl
   have hnx3 := qCN (G := G) s (blQ s (zK s (blQ s p)).1) (by omega) (by omega)
   rw [hky] at hd1
   rw [hd1] at hh ⊢
   generalize blQ s (zK s (blQ s p)).1 = B3 at *
   generalize zK s (blQ s p) = QK at *
   obtain ⟨Q2, key⟩ := QK
   have l58 : (((nxQ s B3).toNat : Int) = 58) ↔ nxQ s B3 = 58 := yQ _ 58 (by decide)
   generalize nxQ s B3 = c3 at *
   have hpl2 := fun v => qUG hkl key v
   generalize hbd : Bool.or B3.bad (decide (c3 ≠ 58)) = bd at *
   simp only at hh hqa hqp hqn hbl3 hb3 hbn3 hnx3 ⊢
   have hmm := fun (A : RQ × Val) => (show qPY true ks vs key A.2 = jY ks vs key A.2 from rfl)
   simp only [hmm]
   refine AW.skip ?_
   refine AW.block ?_
   refine rgn [] [[]] ?_
   refine op1 tok ?_
   refine qV ?_
   refine qC.stepK [0, 2, 3, 5, 8, 9] (yI rfl hbl1 (by simp)) (by conv => lhs; simp) rfl ?_
   refine qC.nil ?_
   refine rgn [] [[]] ?_
   refine op1 tok ?_
   refine qA ?_
   refine AW.seq ?_
   refine rgn [] [[], [], [0, 2, 3, 5, 8, 9, 10, 43]] ?_
   iterate 3 refine op1 tok ?_
   refine qA ?_
   refine cnd ?_ ?_
   ·intro h43
    try simp at h43
    refine rgn [] [[]] ?_
    refine op1 tok ?_
    refine qV ?_
    refine qC.stepK [0, 2, 3, 5, 8, 9, 45] (yI rfl hqa (by simp)) (by conv => lhs; simp) rfl ?_
    refine qC.run [[0, 2, 3, 5, 8, 9, 10]] ?_
    refine op1 tok ?_
    refine qA ?_
    refine rgn [] [[]] ?_
    refine op1 tok ?_
    refine qV ?_
    refine qC.stepK [0, 2, 3, 5, 8, 9, 10] (yI rfl hbl3 (by simp)) (by conv => lhs; simp) rfl ?_
    refine qC.nil ?_
    refine AW.join (α := Unit) (fun _ => True) (fun _ => ⟨qW 117 [(0, .ptr 2 0), (2, .p (.int .i64 d)), (3, .p (.int .u8 125)), (5, .ptr 905 0), (8, .ptr 908 0), (9, .p (.int .i64 many)), (10, .p (.str key))], [2], [(2, .vars 137 [.p (.str s), .p (.int .i64 B3.pos), .p (.int .i64 B3.nodes), .p (.bool bd), .p (.bool B3.deep), .p (.bool B3.big)]), (905, .vars 31 [.p (.int .i64 7), .p (.int .u64 0), .p (.bool false), .p (.str []), .p (.int .i64 0), .p (.str []), .ms 3, .ms 8, .p (.int .i64 0)]), (908, .vars 31 [.p (.int .i64 0), .p (.int .u64 0), .p (.bool false), .p (.str []), .p (.int .i64 0), .p (.str []), .nilsl, .nilsl, .p (.int .i64 0)]), (3, .row 9 1 (ks.map PD.str)), (8, .row 31 9 (vs.map Val.enc))], 900⟩) ?_ ?_
    ·
     refine rgn [] [[]] ?_
     refine op1 tok ?_
     refine qV ?_
     refine qC.stepK [0, 2, 3, 5, 8, 9, 10, 49] (yI rfl hnx3 (by simp)) (by conv => lhs; simp) rfl ?_
     refine qC.run [[0, 2, 3, 5, 8, 9, 10, 50]] ?_
     refine op1 tok ?_
     refine qA ?_
     refine cnd ?_ ?_
     ·intro h50
      try simp at h50
      have hbt : bd = true := by rw [← hbd, decide_eq_true (show c3 ≠ 58 from fun e => h50 (l58.2 e))]; simp
      refine rgz [] [[], [], [], [0, 2, 3, 5, 8, 9, 10]] ?_
      iterate 4 refine op1 tok ?_
      refine qA ?_
      exact ⟨(), trivial, qB (by simp [hbt]), rfl, by simp [hbt], by simp [hbt]⟩
     ·intro h50
      try simp at h50
      have hbt : B3.bad = bd := by rw [← hbd, decide_eq_false (show ¬ c3 ≠ 58 from fun e => e (l58.1 (by omega)))]; simp
      refine AW.skip ?_
      exact ⟨(), trivial, qB (by simp [hbt]), rfl, by simp [hbt], by simp [hbt]⟩
    ·
     rintro _ _
     refine rgz [] [[], [], [], [], [], [0, 2, 3, 5, 8, 9, 10, 58, 59], [], [0, 2, 3, 5, 8, 9, 10]] ?_
     iterate 8 refine op1 tok ?_
     refine qA ?_
     refine AW.seq ?_
     refine rgn [] [[], [], [], [0, 2, 3, 5, 8, 9, 10, 64]] ?_
     iterate 4 refine op1 tok ?_
     refine qA ?_
     refine cnd ?_ ?_
     ·intro h64
      try simp at h64
      rw [if_pos h64]
      refine AW.freeze 3 ?_
      refine AW.freeze 8 ?_
      refine rgn [] [[], [8]] ?_
      iterate 2 refine op1 tok ?_
      refine qA ?_
      exact AW.ret (zX (k := by simp [dc0]))
     ·intro h64
      try simp at h64
      have hhb : (⟨B3.pos + 1, B3.nodes, bd, B3.deep, B3.big⟩ : RQ).bad = false := by simpa using h64
      rw [if_neg (show ¬ (⟨B3.pos + 1, B3.nodes, bd, B3.deep, B3.big⟩ : RQ).bad = true by rw [hhb]; simp)]
      have g2 := hh.2.1 hhb
      have hvn := hv n (⟨B3.pos + 1, B3.nodes, bd, B3.deep, B3.big⟩ : RQ) (by omega) hhb g2 (by (try simp only); omega) (by (try simp only); omega) (by (try simp only); omega)
      have hps := ((zRP s n).1 (⟨B3.pos + 1, B3.nodes, bd, B3.deep, B3.big⟩ : RQ) (d + 1) g2).1
      have hvf := qMJ (s := s) (q := (⟨B3.pos + 1, B3.nodes, bd, B3.deep, B3.big⟩ : RQ)) n (d + 1) hhb g2
      rw [show (((d + 1 : Nat) : Int)) = (d : Int) + 1 from by omega] at hvn
      generalize kM s n (⟨B3.pos + 1, B3.nodes, bd, B3.deep, B3.big⟩ : RQ) (d + 1) = A at *
      obtain ⟨a1, v⟩ := A
      simp only at hvn hps hvf ⊢
      have hdm : decide ((200 : Int) < (many : Int) + 1) = decide (200 < many + 1) := by rw [decide_eq_decide]; omega
      have hbp := qPI (s := s) (q := a1) (c := 125) (many := many + 1) (k := n + 1) (by decide) (by omega)
      have hbeh : qBZ s 125 (many + 1) a1 = if nxQ s (blQ s ⟨a1.pos, a1.nodes, a1.bad, a1.deep, Bool.or a1.big (decide (200 < many + 1))⟩) = 125 then (true, wK (blQ s ⟨a1.pos, a1.nodes, a1.bad, a1.deep, Bool.or a1.big (decide (200 < many + 1))⟩) 1) else (false, { (blQ s ⟨a1.pos, a1.nodes, a1.bad, a1.deep, Bool.or a1.big (decide (200 < many + 1))⟩) with pos := (blQ s ⟨a1.pos, a1.nodes, a1.bad, a1.deep, Bool.or a1.big (decide (200 < many + 1))⟩).pos + 1, bad := Bool.or (blQ s ⟨a1.pos, a1.nodes, a1.bad, a1.deep, Bool.or a1.big (decide (200 < many + 1))⟩).bad (decide (nxQ s (blQ s ⟨a1.pos, a1.nodes, a1.bad, a1.deep, Bool.or a1.big (decide (200 < many + 1))⟩) ≠ 44)) }) := rfl
      rw [hbeh] at hbp
      rw [hbeh]
      have hbl2 := jK (G := G) s ⟨a1.pos, a1.nodes, a1.bad, a1.deep, Bool.or a1.big (decide (200 < many + 1))⟩ (by omega) (by simp only; omega)
      have hx1 := uV (s := s) (q := ⟨a1.pos, a1.nodes, a1.bad, a1.deep, Bool.or a1.big (decide (200 < many + 1))⟩) (k := n + 1) (by simp only; omega)
      have hx2 : (blQ s ⟨a1.pos, a1.nodes, a1.bad, a1.deep, Bool.or a1.big (decide (200 < many + 1))⟩).bad = a1.bad := rfl
      have hx3 : (blQ s ⟨a1.pos, a1.nodes, a1.bad, a1.deep, Bool.or a1.big (decide (200 < many + 1))⟩).nodes = a1.nodes := rfl
      generalize blQ s ⟨a1.pos, a1.nodes, a1.bad, a1.deep, Bool.or a1.big (decide (200 < many + 1))⟩ = B at *
      have hnx2 := qCN (G := G) s B (by omega) (by omega)
      have l44 : (((nxQ s B).toNat : Int) = 44) ↔ nxQ s B = 44 := yQ _ 44 (by decide)
      have lC2 : (((nxQ s B).toNat : Int) = 125) ↔ nxQ s B = 125 := yQ _ 125 (by decide)
      generalize nxQ s B = c at *
      refine AW.skip ?_
      refine rgn [] [[], [], []] ?_
      iterate 3 refine op1 tok ?_
      refine qV ?_
      refine qC.stepK [0, 2, 3, 5, 8, 9, 10, 69] (yI rfl hvn (by simp)) (by conv => lhs; simp) rfl ?_
      refine qC.run [[], [0, 2, 3, 5, 8, 9, 10, 11]] ?_
      iterate 2 refine op1 tok ?_
      refine qA ?_
      refine rgn [] [[], [], [0, 2, 3, 5, 8, 9, 10, 11]] ?_
      iterate 3 refine op1 tok ?_
      refine qA ?_
      refine rgn [] [[], [], [], [], [], [0, 2, 3, 5, 8, 9, 10, 11, 72, 77], [], [], [], [0, 2, 3, 5, 8, 9, 10, 11, 80, 81], [], [0, 2, 3, 5, 8, 9, 10, 11]] ?_
      iterate 6 refine op1 tok ?_ (h := by intro C; conv => lhs; simp [hdm])
      iterate 2 refine op2 tok ?_ (h := by intro C; conv => lhs; simp [hdm])
      iterate 4 refine op1 tok ?_ (h := by intro C; conv => lhs; simp [hdm])
      refine qA ?_
      refine AW.seq ?_
      refine rgn [] [[], [], [0, 2, 3, 5, 8, 9, 10, 11, 85]] ?_
      iterate 3 refine op1 tok ?_
      refine qA ?_
      refine cnd ?_ ?_
      ·intro h85
       try simp at h85
       refine rgz [] [[], [], []] ?_
       iterate 3 refine op1 tok ?_
       refine qV ?_
       refine qC.stepK [0, 2, 3, 5, 8, 9, 89] (yI rfl (zOL ks vs key v hkl (by omega)) (by simp)) (by conv => lhs; simp) rfl ?_
       refine qC.run [[0, 2, 3, 5, 8, 9]] ?_
       refine op1 tok ?_
       refine qA ?_
       refine rgn [] [[]] ?_
       refine op1 tok ?_
       refine qV ?_
       refine qC.stepK [0, 2, 3, 5, 8, 9] (yI rfl hbl2 (by simp)) (by conv => lhs; simp) rfl ?_
       refine qC.nil ?_
       refine rgn [] [[]] ?_
       refine op1 tok ?_
       refine qV ?_
       refine qC.stepK [0, 2, 3, 5, 8, 9, 99] (yI rfl hnx2 (by simp)) (by conv => lhs; simp) rfl ?_
       refine qC.run [[0, 2, 3, 5, 8, 9, 12]] ?_
       refine op1 tok ?_
       refine qA ?_
       refine rgn [] [[], [], [], [], [], [0, 2, 3, 5, 8, 9, 12, 104, 105], [], [0, 2, 3, 5, 8, 9, 12]] ?_
       iterate 8 refine op1 tok ?_
       refine qA ?_
       refine AW.seq ?_
       refine rgn [] [[], [], [0, 2, 3, 5, 8, 9, 12, 109]] ?_
       iterate 3 refine op1 tok ?_
       refine qA ?_
       refine cnd ?_ ?_
       ·intro h109
        try simp at h109
        rw [if_pos (lC2.1 h109)]
        simp only [if_true]
        refine AW.freeze 3 ?_
        refine AW.freeze 8 ?_
        refine rgn [] [[], [8]] ?_
        iterate 2 refine op1 tok ?_
        refine qA ?_
        exact AW.ret (zX (k := by simp [dc0]))
       ·intro h109
        try simp at h109
        rw [if_neg (fun e => h109 (lC2.2 e))]
        rw [if_neg (fun e => h109 (lC2.2 e))] at hbp
        simp only [Bool.false_eq_true, if_false]
        simp only at hbp
        refine AW.skip ?_
        refine rgn [] [[], [0, 2, 3, 5, 8, 9, 112]] ?_
        iterate 2 refine op1 tok ?_
        refine qA ?_
        refine cnd ?_ ?_
        ·intro h112
         try simp at h112
         have hn4 : c ≠ 44 := fun e => h112 (l44.2 e)
         have hpl3 := hpl2 v
         simp only [decide_eq_true (show c ≠ 44 from hn4), Bool.or_true]
         refine rgz [] [[], [], [], [0, 2, 3, 5, 8, 9]] ?_
         iterate 4 refine op1 tok ?_
         refine qA ?_
         exact ⟨(n, ⟨B.pos + 1, B.nodes, true, B.deep, B.big⟩, many + 1, (jY ks vs key v).1, (jY ks vs key v).2), ⟨rfl, by omega, by omega, fun h => (by cases h), by simp only; omega, by (simp only; omega), (qUG hkl key v).1⟩, by simp only; omega, qB (by simp), rfl, by simp, by simp⟩
        ·intro h112
         try simp at h112
         have hn4 : c = 44 := l44.1 (by omega)
         have hd0 : decide (c ≠ 44) = false := by simp [hn4]
         rw [hd0] at hbp ⊢
         simp only [Bool.or_false] at hbp ⊢
         have hpl3 := hpl2 v
         have hinv : B.bad = false → 2 * (s.length - (B.pos + 1)) + 3 ≤ n ∧ B.pos + 1 ≤ s.length ∧ B.nodes + (s.length - (B.pos + 1)) ≤ 10000000000 ∧ q.pos + 1 ≤ B.pos + 1 := fun h => by
          rw [hx2] at h
          have hvf := hvf h
          have hb1 := hbp.2.1 (by rw [hx2]; exact h)
          have hb2 := hbp.2.2
          omega
         refine AW.skip ?_
         exact ⟨(n, ⟨B.pos + 1, B.nodes, B.bad, B.deep, B.big⟩, many + 1, (jY ks vs key v).1, (jY ks vs key v).2), ⟨rfl, by omega, by omega, hinv, by simp only; omega, by (simp only; omega), (qUG hkl key v).1⟩, by simp only; omega, qB (by simp), rfl, by simp, by simp⟩
      ·intro h85
       try simp at h85
   ·intro h43
    try simp at h43
  ·intro h38
   try simp at h38
   rw [if_pos (show p.bad = true by simpa using h38)]
   refine AW.exit ?_
   simp
   refine AW.freeze 3 ?_
   refine AW.freeze 8 ?_
   refine rgn [] [[], [8]] ?_
   iterate 2 refine op1 tok ?_
   refine qA ?_
   exact AW.ret (zX (k := by simp [dc0]))
end Go.Proofs.YtdojfdaglbphlaaGreatDoor
namespace Go.Proofs.YtdojfdaglbphlaaGreatDoor
open Sy Go
set_option maxRecDepth 100000
set_option maxHeartbeats 4000000
set_option linter.unusedSimpArgs false
set_option linter.unusedVariables false
variable {G : qQ}
theorem qMF {s w : List UInt8} {q : RQ} (h : (uW s w q).1 = false) : (uW s w q).2 = q := by
 unfold uW at h ⊢
 split
 ·rename_i e; rw [if_pos e] at h; cases h
 ·rfl
theorem zRV (c : UInt8) : qDQ c = true ↔ ((c.toNat : Int) = 45 ∨ 48 ≤ (c.toNat : Int) ∧ (c.toNat : Int) ≤ 57) := by
 rw [show ((c.toNat : Int) = 45) = (c = 45) from propext (yQ c 45 (by decide))]
 unfold qDQ
 rw [Bool.or_eq_true, decide_eq_true_eq, zS]
 constructor
 ·rintro (h | h)
  ·exact .inl h
  ·exact .inr (by omega)
 ·rintro (h | h)
  ·exact .inl h
  ·exact .inr (by omega)
theorem qMH (n : Nat) (s : List UInt8) (q : RQ) (d : Nat) (hs : s.length ≤ 100000) (hb0 : q.bad = false) (hp : q.pos ≤ s.length) (hN : 2 * (s.length - q.pos) + 2 ≤ n + 1) (hN2 : n ≤ 1000000) (hk : q.nodes + (s.length - q.pos) ≤ 10000000000) (hd : d + (s.length - q.pos) ≤ 10000000000) (ih : ∀ e, qMC G s n e) (hU : qPM G s) (hNu : qTH G s) : AX Tryz.prog G 131 [.ptr 2 0, .p (.int .i64 d)] [(2, .vars 137 (rqC s q))] (.agg (kM s (n + 1) q d).2.cells) [2] [(2, .vars 137 (rqC s (kM s (n + 1) q d).1))] := by
 refine AX.introU tok 900 Tryz.func131 (by kernel_rfl) rfl rfl ?_
 simp only [Tryz.f131, qJ, List.map_cons, List.map_nil]
 rw [qJG]
 have hbl := jK (G := G) s q (by omega) (by omega)
 have hx := uV (s := s) (q := q) (k := 0) (by omega)
 have hx2 := qKJ s q
 have hxn : (blQ s q).nodes = q.nodes := rfl
 have hxb : (blQ s q).bad = q.bad := rfl
 have e1 : (blQ s q).pos = (zR s q d).pos := rfl
 have e2 : ((blQ s q).nodes : Int) + 1 = ((zR s q d).nodes : Int) := by show ((blQ s q).nodes : Int) + 1 = (((blQ s q).nodes + 1 : Nat) : Int); omega
 have e3 : (blQ s q).bad = (zR s q d).bad := rfl
 have e4 : ((blQ s q).deep || decide ((12 : Int) < (d : Int))) = (zR s q d).deep := by
  rw [show decide ((12 : Int) < (d : Int)) = decide (12 < d) by rw [decide_eq_decide]; omega]; rfl
 have e5 : ((blQ s q).big || decide ((400 : Int) < ((zR s q d).nodes : Int))) = (zR s q d).big := by
  rw [show decide ((400 : Int) < ((zR s q d).nodes : Int)) = decide (400 < (zR s q d).nodes) by rw [decide_eq_decide]; omega]; rfl
 have e6 : (zR s q d).nodes = q.nodes + 1 := rfl
 have e7 : (zR s q d).bad = q.bad := rfl
 generalize zR s q d = E at *
 generalize blQ s q = Q at *
 have hnx := qCN (G := G) s E (by omega) (by omega)
 have hnl := qNP (s := s) (q := E)
 have hw := fun w hw => zIV (G := G) s E w (by omega) (by omega) hw
 have l34 : (((nxQ s E).toNat : Int) = 34) ↔ nxQ s E = 34 := yQ _ 34 (by decide)
 have l91 : (((nxQ s E).toNat : Int) = 91) ↔ nxQ s E = 91 := yQ _ 91 (by decide)
 have l123 : (((nxQ s E).toNat : Int) = 123) ↔ nxQ s E = 123 := yQ _ 123 (by decide)
 have lnum := zRV (nxQ s E)
 generalize nxQ s E = c at *
 refine rgn [] [[]] ?_
 refine op1 tok ?_
 refine qA ?_
 refine rgn [] [[]] ?_
 refine op1 tok ?_
 refine qV ?_
 refine qC.stepK [0, 1, 4] (yI rfl hbl (by simp)) (by conv => lhs; simp) rfl ?_
 refine qC.nil ?_
 refine rgn [] [[], [], [], [], [], [0, 1, 4, 12, 13], [], [0, 1, 4]] ?_
 iterate 8 refine op1 tok ?_ (h := by intro C; conv => lhs; simp [e1, e2, e3])
 refine qA ?_
 refine rgn [] [[], [], [], [], [], [0, 1, 4, 15, 20], [], [], [], [0, 1, 4, 23, 24], [], [0, 1, 4]] ?_
 iterate 6 refine op1 tok ?_ (h := by intro C; conv => lhs; simp [e4])
 iterate 2 refine op2 tok ?_ (h := by intro C; conv => lhs; simp [e4])
 iterate 4 refine op1 tok ?_ (h := by intro C; conv => lhs; simp [e4])
 refine qA ?_
 refine rgn [] [[], [], [], [], [], [0, 1, 4, 26, 31], [], [], [], [], [0, 1, 4, 26, 31, 36], [], [], [0, 1, 4, 37, 39], [0, 1, 4]] ?_
 iterate 6 refine op1 tok ?_ (h := by intro C; conv => lhs; simp [e5])
 iterate 5 refine op2 tok ?_ (h := by intro C; conv => lhs; simp [e5])
 iterate 4 refine op1 tok ?_ (h := by intro C; conv => lhs; simp [e5])
 refine qA ?_
 refine rgn [] [[]] ?_
 refine op1 tok ?_
 refine qV ?_
 refine qC.stepK [0, 1, 4, 41] (yI rfl hnx (by simp [e1, e3])) (by conv => lhs; simp) rfl ?_
 refine qC.run [[0, 1, 4, 5]] ?_
 refine op1 tok ?_
 refine qA ?_
 refine AW.seq ?_
 refine AW.block ?_
 refine rgn [] [[], [], [0, 1, 4, 5, 42]] ?_
 iterate 3 refine op1 tok ?_
 refine qA ?_
 refine cnd ?_ ?_
 ·intro h42
  try simp at h42
  rw [if_pos (l34.1 h42)]
  refine rgn [] [[]] ?_
  refine op1 tok ?_
  refine qV ?_
  refine qC.stepK [4, 46] (yI rfl (qNI s E (by omega) (by omega) hU) (by simp)) (by conv => lhs; simp) rfl ?_
  refine qC.run [[], [4]] ?_
  iterate 2 refine op1 tok ?_
  refine qA ?_
  refine AW.fillE 904 [none, none, none, none, none, none, some 1, some 9, none] (by conv => lhs; simp) ?_
  exact AW.ret (zX (k := by simp [dc0]))
 ·intro h42
  try simp at h42
  rw [if_neg (fun e => h42 (l34.2 e))]
  refine rgn [] [[], [], [0, 1, 4, 5, 48]] ?_
  iterate 3 refine op1 tok ?_
  refine qA ?_
  refine cnd ?_ ?_
  ·intro h48
   try simp at h48
   have hc := l91.1 h48
   rw [if_pos hc]
   have hl := hnl (by rw [hc]; decide)
   refine rgn [] [[], [], []] ?_
   iterate 3 refine op1 tok ?_
   refine qV ?_
   refine qC.stepK [4, 54] (yI rfl (zLI n s E d (by omega) hl (by rw [e7]; exact hb0) (by omega) (by omega) (by omega) (by omega) (ih _)) (by simp)) (by conv => lhs; simp) rfl ?_
   refine qC.run [[4]] ?_
   refine op1 tok ?_
   refine qA ?_
   exact AW.ret (zX (k := by simp [dc0]))
  ·intro h48
   try simp at h48
   rw [if_neg (fun e => h48 (l91.2 e))]
   refine rgn [] [[], [], [0, 1, 4, 5, 55]] ?_
   iterate 3 refine op1 tok ?_
   refine qA ?_
   refine cnd ?_ ?_
   ·intro h55
    try simp at h55
    have hc := l123.1 h55
    rw [if_pos hc]
    have hl := hnl (by rw [hc]; decide)
    refine rgn [] [[], [], []] ?_
    iterate 3 refine op1 tok ?_
    refine qV ?_
    refine qC.stepK [4, 61] (yI rfl (zLH n s E d (by omega) hl (by rw [e7]; exact hb0) (by omega) (by omega) (by omega) (by omega) (ih _) hU) (by simp)) (by conv => lhs; simp) rfl ?_
    refine qC.run [[4]] ?_
    refine op1 tok ?_
    refine qA ?_
    exact AW.ret (zX (k := by simp [dc0]))
   ·intro h55
    try simp at h55
    rw [if_neg (fun e => h55 (l123.2 e))]
    refine rgn [] [[], [], [], [], [], [0, 4, 5, 65, 68], [], [], [0, 4, 65, 71], [], [0, 4, 62]] ?_
    iterate 3 refine op1 tok ?_
    iterate 6 refine op2 tok ?_
    iterate 2 refine op1 tok ?_
    refine qA ?_
    refine cnd ?_ ?_
    ·intro h62
     try simp at h62
     rw [if_pos (lnum.2 h62)]
     refine rgn [] [[]] ?_
     refine op1 tok ?_
     refine qV ?_
     refine qC.stepK [4, 74] (yI rfl (zBT s E (by omega) (by omega) hNu) (by simp)) (by conv => lhs; simp) rfl ?_
     refine qC.run [[4]] ?_
     refine op1 tok ?_
     refine qA ?_
     exact AW.ret (zX (k := by simp [dc0]))
    ·intro h62
     try simp at h62
     rw [if_neg (fun e => by have := lnum.1 e; omega)]
     unfold qDB
     refine rgn [] [[]] ?_
     refine op1 tok ?_
     refine qV ?_
     refine qC.stepK [0, 4, 77] (yI rfl (hw qAN (by decide)) (by simp [qAN])) (by conv => lhs; simp) rfl ?_
     refine qC.run [[0, 4, 75]] ?_
     refine op1 tok ?_
     refine qA ?_
     refine cnd ?_ ?_
     ·intro h75
      try simp at h75
      rw [if_pos h75]
      refine rgn [] [[], [4]] ?_
      iterate 2 refine op1 tok ?_
      refine qA ?_
      refine AW.fillE 904 [none, none, none, none, none, none, some 1, some 9, none] (by conv => lhs; simp) ?_
      exact AW.ret (zX (k := by simp [dc0]))
     ·intro h75
      try simp at h75
      rw [if_neg (by rw [h75]; simp)]
      have hno := qMF h75
      simp only [hno]
      refine rgn [] [[]] ?_
      refine op1 tok ?_
      refine qV ?_
      refine qC.stepK [0, 4, 81] (yI rfl (hw qAM (by decide)) (by simp [qAM])) (by conv => lhs; simp) rfl ?_
      refine qC.run [[0, 4, 79]] ?_
      refine op1 tok ?_
      refine qA ?_
      refine cnd ?_ ?_
      ·intro h79
       try simp at h79
       rw [if_pos h79]
       refine rgn [] [[], [4]] ?_
       iterate 2 refine op1 tok ?_
       refine qA ?_
       refine AW.fillE 904 [none, none, none, none, none, none, some 1, some 9, none] (by conv => lhs; simp) ?_
       exact AW.ret (zX (k := by simp [dc0]))
      ·intro h79
       try simp at h79
       rw [if_neg (by rw [h79]; simp)]
       have hno2 := qMF h79
       simp only [hno2]
       refine rgn [] [[]] ?_
       refine op1 tok ?_
       refine qV ?_
       refine qC.stepK [0, 4, 85] (yI rfl (hw xF (by decide)) (by simp [xF])) (by conv => lhs; simp) rfl ?_
       refine qC.run [[0, 4, 83]] ?_
       refine op1 tok ?_
       refine qA ?_
       refine cnd ?_ ?_
       ·intro h83
        try simp at h83
        rw [if_pos h83]
        refine rgn [] [[], [4]] ?_
        iterate 2 refine op1 tok ?_
        refine qA ?_
        refine AW.fillE 904 [none, none, none, none, none, none, some 1, some 9, none] (by conv => lhs; simp) ?_
        exact AW.ret (zX (k := by simp [dc0]))
       ·intro h83
        try simp at h83
        rw [if_neg (by rw [h83]; simp)]
        have hno3 := qMF h83
        simp only [hno3]
        refine AW.skip ?_
        refine rgn [] [[], [], [], [4]] ?_
        iterate 4 refine op1 tok ?_
        refine qA ?_
        refine rgn [] [[], [4]] ?_
        iterate 2 refine op1 tok ?_
        refine qA ?_
        refine AW.fillE 904 [none, none, none, none, none, none, some 1, some 9, none] (by conv => lhs; simp) ?_
        exact AW.ret (zX (k := by simp [wW, dc0]))
theorem qGP {s : List UInt8} (hs : s.length ≤ 100000) (hU : qPM G s) (hNu : qTH G s) : ∀ N d, N ≤ 1000001 → qMC G s N d
 | 0, d, _ => fun m q h => absurd h (by omega)
 | N + 1, d, hN => fun m q hm h1 h2 h3 h4 h5 => by
  by_cases h : m < N
  ·exact qGP hs hU hNu N d (by omega) m q h h1 h2 h3 h4 h5
  ·obtain rfl : m = N := by omega
   obtain ⟨n, rfl⟩ : ∃ n, m = n + 1 := ⟨m - 1, by omega⟩
   exact qMH n s q d hs h1 h2 h3 (by omega) h4 h5 (fun e k t hk => qGP hs hU hNu (n + 1) e (by omega) k t (by omega)) hU hNu
theorem zKN (s : List UInt8) (hs : s.length ≤ 100000) (hU : qPM G s) (hNu : qTH G s) : AFn Tryz.prog G 68 [.str s] (.tup [(qPX s).1.enc, .int .i64 (qPX s).2.1, .int .i64 (qPX s).2.2]) := by
 refine AFn.introU tok Tryz.func68 (by kernel_rfl) rfl rfl ?_
 simp only [Tryz.f68, qJ, List.map_cons, List.map_nil]
 have hv := qGP (G := G) hs hU hNu (2 * s.length + 3) 1 (by omega) (2 * s.length + 2) ⟨0, 0, false, false, false⟩ (by omega) rfl (by simp) (by simp) (by simp only; omega) (by simp only; omega)
 have hM : qPX s = if (kM s (2 * s.length + 2) ⟨0, 0, false, false, false⟩ 1).1.bad = true then (wW, 0, 10) else if (kM s (2 * s.length + 2) ⟨0, 0, false, false, false⟩ 1).1.deep = true then (wW, 0, 11) else if (kM s (2 * s.length + 2) ⟨0, 0, false, false, false⟩ 1).1.big = true then (wW, 0, 3) else ((kM s (2 * s.length + 2) ⟨0, 0, false, false, false⟩ 1).2, ((kM s (2 * s.length + 2) ⟨0, 0, false, false, false⟩ 1).1.pos : Int), 0) := rfl
 rw [hM]
 generalize kM s (2 * s.length + 2) ⟨0, 0, false, false, false⟩ 1 = r at *
 obtain ⟨⟨ps, nn, b, dp, bg⟩, v⟩ := r
 simp only at hv ⊢
 refine rgn [] [[], [], [0, 2]] ?_
 iterate 3 refine op1 tok ?_
 refine qA ?_
 refine rgn [] [[], [], [], [2, 5]] ?_
 iterate 4 refine op1 tok ?_
 refine qA ?_
 refine AW.renE 2 50 (by simp) (by conv => lhs; simp) ?_
 refine AW.renE 9 2 (by simp) (by conv => lhs; simp) ?_
 refine rgn [] [[]] ?_
 refine op1 tok ?_
 refine qV ?_
 refine qC.stepK [2, 5, 11] (yI rfl hv (by simp)) (by conv => lhs; simp) rfl ?_
 refine qC.run [[], [2, 5, 6]] ?_
 iterate 2 refine op1 tok ?_
 refine qA ?_
 refine AW.seq ?_
 refine rgn [] [[], [], [], [2, 5, 6, 15]] ?_
 iterate 4 refine op1 tok ?_
 refine qA ?_
 refine cnd ?_ ?_
 ·intro h15
  try simp at h15
  subst h15
  rw [if_pos rfl]
  refine rgn [] [[], [], [], [2, 3, 4]] ?_
  iterate 4 refine op1 tok ?_
  refine qA ?_
  exact AW.ret (qI (k := by simp [wW, dc0]))
 ·intro h15
  try simp at h15
  rw [if_neg (by rw [h15]; simp)]
  refine AW.skip ?_
  refine AW.seq ?_
  refine rgn [] [[], [], [], [2, 5, 6, 20]] ?_
  iterate 4 refine op1 tok ?_
  refine qA ?_
  refine cnd ?_ ?_
  ·intro h20
   try simp at h20
   subst h20
   rw [if_pos rfl]
   refine rgn [] [[], [], [], [2, 3, 4]] ?_
   iterate 4 refine op1 tok ?_
   refine qA ?_
   exact AW.ret (qI (k := by simp [wW, dc0]))
  ·intro h20
   try simp at h20
   rw [if_neg (by rw [h20]; simp)]
   refine AW.skip ?_
   refine AW.seq ?_
   refine rgn [] [[], [], [], [2, 5, 6, 25]] ?_
   iterate 4 refine op1 tok ?_
   refine qA ?_
   refine cnd ?_ ?_
   ·intro h25
    try simp at h25
    subst h25
    rw [if_pos rfl]
    refine rgn [] [[], [], [], [2, 3, 4]] ?_
    iterate 4 refine op1 tok ?_
    refine qA ?_
    exact AW.ret (qI (k := by simp [wW, dc0]))
   ·intro h25
    try simp at h25
    rw [if_neg (by rw [h25]; simp)]
    refine AW.skip ?_
    refine AW.seqDrawS tok mixed 6 [[6], [5], [28], [29], [30], [2, 27]] [] [] (by kernel_rfl) ?_
    iterate 6 refine d1 ?_
    refine DGo.nil (by kernel_rfl) ⟨by kernel_rfl, ?_⟩
    refine qC.run [[], [2, 3, 4]] ?_
    iterate 2 refine op1 tok ?_
    refine qA ?_
    exact AW.ret qI
end Go.Proofs.YtdojfdaglbphlaaGreatDoor
