import Derived.Test.YtdojfdaglbphlaaGreatDoorK1
import Derived.Test.YtdojfdaglbphlaaGreatDoorM3
import Derived.Test.YtdojfdaglbphlaaGreatDoorM4
import Derived.Lib.Repeat
import Derived.Lib.ValidLaws
import Derived.Shelf.Unicode.ValidAny
import Derived.Shelf.Strings.Builder1
import Derived.Shelf.Unicode.DecodeAny
import Derived.Lib.MapLaws
namespace Go.Proofs.YtdojfdaglbphlaaGreatDoor
open Sy Go
set_option linter.unusedSimpArgs false
set_option linter.unusedVariables false
def qJ (s : List UInt8) : Nat := s.foldl (fun n b => n * 10 + (b.toNat - 48)) 0
def dv (b : UInt8) : Nat := b.toNat - 48
theorem zP (b : UInt8) : qG b = true ↔ 48 ≤ b.toNat ∧ b.toNat ≤ 57 := by simp [qG, kG]; omega
theorem qKH (s : List UInt8) : ∀ n, s.foldl (fun n b => n * 10 + (b.toNat - 48)) n = n * 10 ^ s.length + qJ s := by
 induction s with
 | nil => intro n; simp [qJ]
 | cons b s ih =>
  intro n
  have e : qJ (b :: s) = (b.toNat - 48) * 10 ^ s.length + qJ s := by unfold qJ; rw [List.foldl_cons, ih]; simp [qJ]
  rw [List.foldl_cons, ih, e, List.length_cons, Nat.pow_succ, Nat.add_mul, Nat.mul_assoc, Nat.mul_comm 10, Nat.add_assoc]
theorem yD (b : UInt8) (s : List UInt8) : qJ (b :: s) = (b.toNat - 48) * 10 ^ s.length + qJ s := by
 unfold qJ; rw [List.foldl_cons, qKH]; simp [qJ]
theorem yB (s t : List UInt8) : qJ (s ++ t) = qJ s * 10 ^ t.length + qJ t := by
 unfold qJ; rw [List.foldl_append, qKH]; rfl
theorem xV (s : List UInt8) (b : UInt8) : qJ (s ++ [b]) = qJ s * 10 + (b.toNat - 48) := by rw [yB]; simp [qJ]
theorem yV {s : List UInt8} (h : s.all qG = true) : qJ s < 10 ^ s.length := by
 induction s with
 | nil => simp [qJ]
 | cons b s ih =>
  simp only [List.all_cons, Bool.and_eq_true] at h
  have h1 := (zP b).1 h.1
  have h2 := ih h.2
  rw [yD, List.length_cons, Nat.pow_succ]
  have : b.toNat - 48 ≤ 9 := by omega
  have := Nat.mul_le_mul_right (10 ^ s.length) this
  omega
theorem qEJ (n : Nat) : Lib.repeatL [48] n = List.replicate n 48 := by
 induction n with
 | zero => rfl
 | succ n ih => simp [Lib.repeatL, ih, List.replicate_succ]
theorem uE (n : Nat) : qJ (List.replicate n 48) = 0 := by
 induction n with
 | zero => rfl
 | succ n ih => rw [List.replicate_succ, yD, ih]; simp
theorem uF (s : List UInt8) (n : Nat) : qJ (s ++ List.replicate n 48) = qJ s * 10 ^ n := by rw [yB, uE]; simp
theorem kZ {s : List UInt8} (h : s.all qG = true) (n : Nat) : (s ++ List.replicate n 48).all qG = true := by
 rw [List.all_append, h]
 have : (List.replicate n (48 : UInt8)).all qG = true := List.all_eq_true.2 fun b hb => by rw [(List.mem_replicate.1 hb).2]; rfl
 rw [this]; rfl
def qI : Nat := 1000000000
def qP : List Nat → Nat
 | [] => 0
 | x :: xs => x + qI * qP xs
def okL (l : List Nat) : Prop := ∀ x ∈ l, x < qI
def wV (l : List Nat) : List Nat := (l.reverse.dropWhile (· == 0)).reverse
def qCE (s : List UInt8) (e : Nat) : Nat := qJ ((s.take e).drop (e - 9))
def qDS (s : List UInt8) : Nat → Nat → List Nat
 | 0, _ => []
 | f + 1, e => if 0 < e then qCE s e :: qDS s f (e - 9) else []
theorem qJG (s : List UInt8) : ∀ (f g e : Nat), e ≤ f → e ≤ g → qDS s f e = qDS s g e
 | 0, 0, _, _, _ => rfl
 | 0, g + 1, e, h, _ => by simp only [qDS]; rw [if_neg (by omega)]
 | f + 1, 0, e, _, h => by simp only [qDS]; rw [if_neg (by omega)]
 | f + 1, g + 1, e, h1, h2 => by
  simp only [qDS]
  split
  ·rw [qJG s f g _ (by omega) (by omega)]
  ·rfl
def uN (s : List UInt8) (e : Nat) : List Nat := qDS s e e
theorem qER {s : List UInt8} {e : Nat} (h : 0 < e) : uN s e = qCE s e :: uN s (e - 9) := by
 unfold uN
 rw [show e = (e - 1) + 1 by omega]
 simp only [qDS]
 rw [if_pos (by omega), qJG s (e - 1) (e - 1 + 1 - 9) _ (by omega) (by omega)]
theorem jT (s : List UInt8) : uN s 0 = [] := rfl
theorem qBQ {s : List UInt8} (h : s.all qG = true) (n : Nat) : (s.take n).all qG = true := by
 rw [List.all_eq_true] at h ⊢; exact fun b hb => h b (List.mem_of_mem_take hb)
theorem qEE {s : List UInt8} (h : s.all qG = true) (n : Nat) : (s.drop n).all qG = true := by
 rw [List.all_eq_true] at h ⊢; exact fun b hb => h b (List.mem_of_mem_drop hb)
theorem limbAt_lt {s : List UInt8} (h : s.all qG = true) (e : Nat) : qCE s e < qI := by
 have h1 := yV (qEE (qBQ h e) (e - 9))
 have h2 : ((s.take e).drop (e - 9)).length ≤ 9 := by simp; omega
 have := Nat.pow_le_pow_right (n := 10) (by omega) h2
 unfold qCE qI; omega
theorem qUZ {s : List UInt8} (h : s.all qG = true) : ∀ (f e : Nat), e ≤ f → okL (uN s e)
 | 0, e, he => by rw [show e = 0 by omega, jT]; intro x hx; cases hx
 | f + 1, e, he => by
  by_cases hp : 0 < e
  ·rw [qER hp]
   intro x hx
   rcases List.mem_cons.1 hx with rfl | hx
   ·exact limbAt_lt h e
   ·exact qUZ h f (e - 9) (by omega) x hx
  ·rw [show e = 0 by omega, jT]; intro x hx; cases hx
theorem qPG {s : List UInt8} (h : s.all qG = true) : ∀ (f e : Nat), e ≤ f → e ≤ s.length → qP (uN s e) = qJ (s.take e)
 | 0, e, he, _ => by rw [show e = 0 by omega, jT]; rfl
 | f + 1, e, he, hs => by
  by_cases hp : 0 < e
  ·rw [qER hp]
   simp only [qP]
   rw [qPG h f (e - 9) (by omega) (by omega)]
   have e1 : s.take e = s.take (e - 9) ++ (s.take e).drop (e - 9) := by
    have h2 := List.take_append_drop (e - 9) (s.take e)
    rw [List.take_take, Nat.min_eq_left (by omega)] at h2
    exact h2.symm
   have e2 : qJ (s.take e) = qJ (s.take (e - 9)) * 10 ^ ((s.take e).drop (e - 9)).length + qCE s e := by
    rw [e1, yB, ← e1]; rfl
   rw [e2]
   by_cases h9 : 9 ≤ e
   ·have : ((s.take e).drop (e - 9)).length = 9 := by simp; omega
    rw [this]; unfold qI; omega
   ·rw [show e - 9 = 0 by omega]; simp [qJ]
  ·rw [show e = 0 by omega, jT]; rfl
theorem qAD (l : List Nat) (x : Nat) : wV (l ++ [x]) = if x = 0 then wV l else l ++ [x] := by
 unfold wV
 rw [List.reverse_append]
 simp only [List.reverse_cons, List.reverse_nil, List.nil_append, List.singleton_append, List.dropWhile_cons]
 by_cases h : x = 0
 ·simp [h]
 ·simp [h]
theorem kR (l : List Nat) (x : Nat) : qP (l ++ [x]) = qP l + qI ^ l.length * x := by
 induction l with
 | nil => simp [qP]
 | cons a l ih => simp only [List.cons_append, qP, ih, List.length_cons, Nat.pow_succ, Nat.mul_add]; rw [Nat.add_assoc, Nat.mul_comm (qI ^ l.length) qI, Nat.mul_assoc]
theorem qQX {p : List Nat → Prop} (h0 : p []) (h1 : ∀ l x, p l → p (l ++ [x])) (l : List Nat) : p l := by
 have : ∀ r : List Nat, p r.reverse := by
  intro r
  induction r with
  | nil => exact h0
  | cons a r ih => rw [List.reverse_cons]; exact h1 _ _ ih
 simpa using this l.reverse
theorem qBU (l : List Nat) : qP (wV l) = qP l := by
 refine qQX (p := fun l => qP (wV l) = qP l) rfl (fun l x ih => ?_) l
 rw [qAD]
 split
 ·rename_i h; rw [ih, kR, h]; simp
 ·rfl
theorem qEL {l : List Nat} (h : okL l) : okL (wV l) := by
 intro x hx
 unfold wV at hx
 rw [List.mem_reverse] at hx
 exact h x (List.mem_reverse.1 ((List.dropWhile_sublist _).subset hx))
def qJP (l : List Nat) : Prop := okL l ∧ l.getLast? ≠ some 0
theorem qWU {l : List Nat} (h : okL l) : qJP (wV l) := by
 refine ⟨qEL h, ?_⟩
 refine qQX (p := fun l => (wV l).getLast? ≠ some 0) (by simp [wV]) (fun l x ih => ?_) l
 rw [qAD]
 split
 ·exact ih
 ·rename_i h; simp; exact h
theorem qDT {l : List Nat} (h : okL l) : qP l < qI ^ l.length := by
 induction l with
 | nil => simp [qP]
 | cons a l ih =>
  have h1 := h a (by simp)
  have h2 := ih fun x hx => h x (by simp [hx])
  simp only [qP, List.length_cons, Nat.pow_succ]
  have : qI * (qP l + 1) ≤ qI * qI ^ l.length := Nat.mul_le_mul_left _ h2
  rw [Nat.mul_comm (qI ^ l.length)]
  rw [Nat.mul_add] at this; omega
theorem limbV_ge {l : List Nat} (h : l ≠ []) (hc : l.getLast? ≠ some 0) : qI ^ (l.length - 1) ≤ qP l := by
 have hs : l = l.dropLast ++ [l.getLast h] := (List.dropLast_concat_getLast h).symm
 have hx : l.getLast h ≠ 0 := fun e => hc (by rw [← e]; exact List.getLast?_eq_some_getLast h)
 have hv : qP l = qP l.dropLast + qI ^ l.dropLast.length * l.getLast h := by
  conv => lhs; rw [hs]
  exact kR _ _
 rw [hv, List.length_dropLast]
 have : qI ^ (l.length - 1) * 1 ≤ qI ^ (l.length - 1) * l.getLast h := Nat.mul_le_mul_left _ (by omega)
 omega
theorem qLW {l m : List Nat} (hl : qJP l) (hm : qJP m) (h : l.length < m.length) : qP l < qP m := by
 have h1 := qDT hl.1
 have h2 := limbV_ge (l := m) (by rintro rfl; simp at h) hm.2
 have h3 : qI ^ l.length ≤ qI ^ (m.length - 1) := Nat.pow_le_pow_right (by decide) (by omega)
 omega
def xE (l m : List Nat) : Nat → Int
 | 0 => 0
 | i + 1 => if l.getD i 0 = m.getD i 0 then xE l m i else if l.getD i 0 < m.getD i 0 then -1 else 1
def jR (l m : List Nat) : Int := if l.length ≠ m.length then (l.length : Int) - m.length else xE l m l.length
theorem qFH {l : List Nat} {i : Nat} (h : i < l.length) : l.take (i + 1) = l.take i ++ [l.getD i 0] := by
 rw [List.take_succ_eq_append_getElem h]; simp [List.getD_eq_getElem?_getD, h]
theorem qIT {l m : List Nat} (hl : okL l) (hm : okL m) (hlen : l.length = m.length) : ∀ i, i ≤ l.length →
  xE l m i = if qP (l.take i) < qP (m.take i) then -1 else if qP (l.take i) = qP (m.take i) then 0 else 1
 | 0, _ => by simp [xE, qP]
 | i + 1, hi => by
  have h1 := qDT (l := l.take i) fun x hx => hl x (List.mem_of_mem_take hx)
  have h2 := qDT (l := m.take i) fun x hx => hm x (List.mem_of_mem_take hx)
  have e1 : (l.take i).length = i := by simp; omega
  have e2 : (m.take i).length = i := by simp; omega
  rw [e1] at h1
  rw [e2] at h2
  rw [qFH (by omega), qFH (by omega), kR, kR, e1, e2]
  simp only [xE]
  by_cases h : l.getD i 0 = m.getD i 0
  ·rw [if_pos h, qIT hl hm hlen i (by omega), h]
   have a1 : (qP (l.take i) + qI ^ i * m.getD i 0 < qP (m.take i) + qI ^ i * m.getD i 0) = (qP (l.take i) < qP (m.take i)) := propext (by omega)
   have a2 : (qP (l.take i) + qI ^ i * m.getD i 0 = qP (m.take i) + qI ^ i * m.getD i 0) = (qP (l.take i) = qP (m.take i)) := propext (by omega)
   simp only [a1, a2]
  ·rw [if_neg h]
   by_cases h3 : l.getD i 0 < m.getD i 0
   ·rw [if_pos h3]
    have := Nat.mul_le_mul_left (qI ^ i) (show l.getD i 0 + 1 ≤ m.getD i 0 by omega)
    rw [Nat.mul_add, Nat.mul_one] at this
    rw [if_pos (by omega)]
   ·rw [if_neg h3]
    have := Nat.mul_le_mul_left (qI ^ i) (show m.getD i 0 + 1 ≤ l.getD i 0 by omega)
    rw [Nat.mul_add, Nat.mul_one] at this
    rw [if_neg (by omega), if_neg (by omega)]
def sgn (n : Int) : Int := if n < 0 then -1 else if n = 0 then 0 else 1
theorem qJD {l m : List Nat} (hl : qJP l) (hm : qJP m) : sgn (jR l m) = sgn ((qP l : Int) - qP m) := by
 unfold jR
 by_cases h : l.length = m.length
 ·rw [if_neg (by omega), qIT hl.1 hm.1 h l.length (Nat.le_refl _), List.take_length, h, List.take_length]
  unfold sgn
  split
  ·rw [if_pos (by omega), if_pos (by omega)]
  ·split
   ·rw [if_neg (by omega), if_pos rfl, if_neg (by omega), if_pos (by omega)]
   ·rw [if_neg (by omega), if_neg (by omega), if_neg (by omega), if_neg (by omega)]
 ·rw [if_pos h]
  unfold sgn
  rcases Nat.lt_or_gt_of_ne h with h1 | h1
  ·have := qLW hl hm h1
   rw [if_pos (by omega), if_pos (by omega)]
  ·have := qLW hm hl h1
   rw [if_neg (by omega), if_neg (by omega), if_neg (by omega), if_neg (by omega)]
theorem qRN (l m : List Nat) (h1 : l.length ≤ 1000000) (h2 : m.length ≤ 1000000) : -1000000 ≤ jR l m ∧ jR l m ≤ 1000000 := by
 unfold jR
 split
 ·omega
 ·have : ∀ i, -1 ≤ xE l m i ∧ xE l m i ≤ 1 := by
   intro i
   induction i with
   | zero => simp [xE]
   | succ i ih => simp only [xE]; split; · exact ih
                  ·split <;> omega
  have := this l.length; omega
def kP (s : List UInt8) : List Nat := wV (uN s s.length)
theorem qBG {s : List UInt8} (h : s.all qG = true) : qJP (kP s) := qWU (qUZ h _ _ (Nat.le_refl _))
theorem qBF {s : List UInt8} (h : s.all qG = true) : qP (kP s) = qJ s := by
 unfold kP; rw [qBU, qPG h _ _ (Nat.le_refl _) (Nat.le_refl _), List.take_length]
theorem qPH (s : List UInt8) : ∀ (f e : Nat), e ≤ f → (uN s e).length ≤ e
 | 0, e, he => by rw [show e = 0 by omega, jT]; simp
 | f + 1, e, he => by
  by_cases hp : 0 < e
  ·rw [qER hp]; have := qPH s f (e - 9) (by omega); simp; omega
  ·rw [show e = 0 by omega, jT]; simp
theorem qDO (s : List UInt8) : (kP s).length ≤ s.length := by
 have h1 : (kP s).length ≤ (uN s s.length).length := by
  unfold kP wV; rw [List.length_reverse]; have := (List.dropWhile_sublist (fun x : Nat => x == 0) (l := (uN s s.length).reverse)).length_le; simpa using this
 have := qPH s _ s.length (Nat.le_refl _); omega
set_option maxRecDepth 100000
set_option maxHeartbeats 4000000
variable {G : qS}
@[simp] def zF (n : Nat) : PD := .int .u64 n
theorem qJQ (l : List Nat) : AFn Tryz.prog G 144 [.sl 1 (l.map zF)] (.sl 1 ((wV l).map zF)) := by
 refine AFn.introU tok Tryz.func144 (by kernel_rfl) rfl rfl ?_
 simp only [Tryz.f144, qK, List.map_cons, List.map_nil]
 refine rgn [] [[0]] ?_
 refine op1 tok ?_
 refine qA ?_
 refine AW.seq ?_
 refine AW.block ?_
 refine AW.loop (α := List Nat) (fun r => wV r = wV l) (fun r => ⟨qW 21 [(0, .p (.sl 1 (r.map zF)))], [], [], 0⟩) (fun r => r.length) (l) rfl ⟨qB (by simp), rfl, by simp, by simp⟩ ?_
 rintro r hr
 refine AW.slFactU (i := 0) rfl (by decide) ?_
 intro hlen
 simp at hlen
 have hlast : 0 < r.length → r[r.length - 1]? = some (r.getD (r.length - 1) 0) := fun h => by simp [List.getD_eq_getElem?_getD, show r.length - 1 < r.length by omega]
 refine AW.seq ?_
 refine rgn [.int .u64 (r.getD (r.length - 1) 0 : Nat)] [[], [], [], [], [], [], [0, 6, 7, 9], [], [], [0, 6, 12], [], [0, 14]] ?_
 iterate 4 refine op1 tok ?_ (hv := by first | with_reducible exact True.intro | ((intro h; refine ⟨h, by omega, _, hlast h, ?_⟩; simp); done) | omega | simp | (simp +contextual; omega))
 iterate 7 refine op2 tok ?_ (hv := by first | with_reducible exact True.intro | ((intro h; refine ⟨h, by omega, _, hlast h, ?_⟩; simp); done) | omega | simp | (simp +contextual; omega))
 refine op1 tok ?_ (hv := by first | with_reducible exact True.intro | ((intro h; refine ⟨h, by omega, _, hlast h, ?_⟩; simp); done) | omega | simp | (simp +contextual; omega))
 refine qA ?_
 refine cnd ?_ ?_
 ·intro h14
  try simp at h14
  obtain ⟨s, x, rfl⟩ : ∃ s x, r = s ++ [x] := ⟨r.dropLast, r.getLast (by rintro rfl; simp at h14), (List.dropLast_concat_getLast _).symm⟩
  simp at h14
  subst h14
  have hr' : wV s = wV l := by rw [← hr, qAD]; simp
  have hsl : (s.length : Int) ≤ 9223372036854775807 := by simp at hlen; omega
  refine AW.skip ?_
  refine AW.block ?_
  refine rgz [] [[], [], [], [], [19], [0]] ?_
  iterate 6 refine op1 tok ?_
  refine qA ?_
  exact ⟨s, hr', by simp, qB (by simp), rfl, by simp, by simp⟩
 ·intro h14
  try simp at h14
  have hN : wV r = r := by
   refine qQX (p := fun r => (0 < r.length → ¬ r.getD (r.length - 1) 0 = 0) → wV r = r) (fun _ => rfl) (fun s x _ h => ?_) r (fun h => by have := h14 h; simpa using this)
   have := h (by simp)
   rw [qAD, if_neg (by simpa using this)]
  rw [← hr, hN]
  refine AW.exit ?_
  simp
  refine rgn [] [[], [2]] ?_
  iterate 2 refine op1 tok ?_
  refine qA ?_
  exact AW.ret ⟨.inr rfl, _, _, by (conv => lhs; simp), trivial, by simp⟩
theorem wZ {x : Int} (h0 : 0 ≤ x) (h1 : x < 18446744073709551616) : IntKind.u64.wrap x = x := by simp [IntKind.wrap, IntKind.bits, IntKind.signed]; omega
theorem qAB {x : Int} (h0 : 0 ≤ x) (h1 : x < 256) : IntKind.u8.wrap x = x := by simp [IntKind.wrap, IntKind.bits, IntKind.signed]; omega
theorem qLQ (s : List UInt8) (hs : s.all qG = true) (hl : s.length ≤ 1000000) : AFn Tryz.prog G 88 [.str s] (.sl 1 ((kP s).map zF)) := by
 refine AFn.introU tok Tryz.func88 (by kernel_rfl) rfl rfl ?_
 simp only [Tryz.f88, qK, List.map_cons, List.map_nil]
 refine rgn [] [[0]] ?_
 refine op1 tok ?_
 refine qA ?_
 refine rgn [] [[]] ?_
 refine op1 tok ?_
 refine qA ?_
 refine AW.seq ?_
 refine rgn [] [[], [], [0, 3, 4]] ?_
 iterate 3 refine op1 tok ?_
 refine qA ?_
 refine AW.block ?_
 refine AW.beginE 3 36 24 1 (by simp) (by simp) (by conv => lhs; simp) ?_
 refine AW.loop (α := Int × List Nat) (fun a => a.1 ≤ s.length ∧ -9 < a.1 ∧ a.2.length ≤ s.length - a.1.toNat ∧ a.2 ++ uN s a.1.toNat = uN s s.length) (fun a => ⟨qW 39 [(0, .p (.str s)), (3, .ms 36), (4, .p (.int .i64 a.1))], [], [(36, .row 24 1 (a.2.map zF))], 0⟩) (fun a => a.1.toNat) (((s.length : Int), [])) ⟨by simp, by simp only []; omega, by simp, by simp⟩ ⟨qB (by simp), rfl, by simp, by simp⟩ ?_
 rintro ⟨e, acc⟩ ⟨h1, h2, hal, h3⟩
 simp only at h1 h2 h3 hal
 refine AW.seq ?_
 refine rgn [] [[], [0, 3, 4, 11]] ?_
 iterate 2 refine op1 tok ?_
 refine qA ?_
 refine cnd ?_ ?_
 ·intro h11
  try simp at h11
  obtain ⟨n, rfl⟩ : ∃ n : Nat, e = n := ⟨e.toNat, by omega⟩
  obtain ⟨c, hc⟩ : ∃ c, c = (s.take n).drop (n - 9) := ⟨_, rfl⟩
  have hcd : c.all qG = true := by rw [hc]; exact qEE (qBQ hs n) _
  have hcl : c.length ≤ 9 := by rw [hc]; simp; omega
  have hvc : qJ c = qCE s n := by rw [hc]; rfl
  have hmx : (if 9 < (n : Int) then (n : Int) - 9 else 0).toNat = n - 9 := by split <;> omega
  refine AW.skip ?_
  refine AW.seq ?_
  refine AW.block ?_
  refine rgn [] [[]] ?_
  refine op1 tok ?_
  refine qA ?_
  refine AW.seq ?_
  refine rgn [] [[], [], [], [], [], [0, 3, 4, 5, 19], [], [], [0, 3, 4, 5, 20, 21, 22]] ?_
  iterate 9 refine op1 tok ?_
  refine qA ?_
  refine AW.block ?_
  refine AW.loop (α := Nat) (fun k => k ≤ c.length) (fun k => ⟨qW 39 [(0, .p (.str s)), (3, .ms 36), (4, .p (.int .i64 n)), (5, .p (.int .u64 (qJ (c.take k) : Nat))), (20, .p (.sl 1 (qQ c))), (21, .p (.int .i64 c.length)), (22, .p (.int .i64 k))], [], [(36, .row 24 1 (acc.map zF))], 0⟩) (fun k => c.length - k) (0) (by omega) ⟨qB (by simp [hmx, hc, qJ]), rfl, by simp, by simp⟩ ?_
  rintro k hk
  have hck := yV (qBQ hcd k)
  have hck2 : (c.take k).length ≤ 8 → qJ (c.take k) < 100000000 := fun h => Nat.lt_of_lt_of_le hck (Nat.pow_le_pow_right (n := 10) (by omega) h)
  have hix : ∀ k : Nat, k < c.length → c[k]? = some (c.getD k 0) := fun k h => kT h
  refine rgn [] [[]] ?_
  refine op1 tok ?_
  refine qA ?_
  refine AW.seq ?_
  refine cnd ?_ ?_
  ·intro h23
   try simp at h23
   have hdk := (zP _).1 (List.all_eq_true.1 hcd _ (List.mem_of_getElem? (hix k h23)))
   have hv8 : qJ (c.take k) < 100000000 := hck2 (by simp; omega)
   have hsn : qJ (c.take (k + 1)) = qJ (c.take k) * 10 + ((c.getD k 0).toNat - 48) := by rw [List.take_add_one, hix k h23]; exact xV _ _
   have hbk : qM c k = ((c.getD k 0).toNat : Int) := rfl
   have hw1 : IntKind.u8.wrap (qM c k - 48) = qM c k - 48 := qAB (by omega) (by omega)
   have hw2 : IntKind.u64.wrap ((qJ (c.take k) : Int) * 10) = (qJ (c.take k) : Int) * 10 := wZ (by omega) (by omega)
   have hw3 : IntKind.u64.wrap ((qJ (c.take k) : Int) * 10 + (qM c k - 48)) = (qJ (c.take (k + 1)) : Int) := by rw [wZ (by omega) (by omega), hsn]; omega
   refine AW.skip ?_
   refine AW.seq ?_
   refine AW.block ?_
   refine rgn [.int .u8 (qM c k)] [[], [], [0, 3, 4, 5, 7, 20, 21, 22]] ?_
   iterate 3 refine op1 tok ?_ (hv := by first | with_reducible exact True.intro | (first | exact qCM (hix k h23) | simp; done) | omega | simp | (simp +contextual; omega))
   refine qA ?_
   refine rgz [] [[], [], [], [0, 3, 4, 20, 21, 22, 27, 29], [], [], [0, 3, 4, 5, 20, 21, 22]] ?_
   iterate 7 refine op1 tok ?_
   refine qA ?_
   refine rgz [] [[], [0, 3, 4, 5, 20, 21, 22]] ?_
   iterate 2 refine op1 tok ?_
   refine qA ?_
   exact ⟨k + 1, by omega, by omega, qB (by simp [hw1, hw2, hw3]), rfl, by simp [hw1, hw2, hw3], by simp [hw1, hw2, hw3]⟩
  ·intro h23
   try simp at h23
   have hkc : k = c.length := by omega
   subst hkc
   simp only [List.take_length, hvc]
   have hlz := qER (s := s) (e := n) (by omega)
   have h3' : acc ++ [qCE s n] ++ uN s ((n : Int) - 9).toNat = uN s s.length := by
    rw [← h3, show ((n : Int)).toNat = n by omega, hlz, show ((n : Int) - 9).toNat = n - 9 by omega]; simp
   refine AW.exit ?_
   simp
   refine rgz [.int .u64 (qCE s n : Nat)] [[], [], [], [0, 4, 36], [0, 3, 4]] ?_
   iterate 5 refine op1 tok ?_ (hv := by first | with_reducible exact True.intro | ((simp; omega); done) | omega | simp | (simp +contextual; omega))
   refine qA ?_
   refine rgz [] [[], [], [0, 3, 4]] ?_
   iterate 3 refine op1 tok ?_
   refine qA ?_
   exact ⟨(n : Int) - 9, acc ++ [qCE s n], ⟨by omega, by omega, by simp; omega, h3'⟩, by omega, qB (by simp), rfl, by simp, by simp⟩
 ·intro h11
  try simp at h11
  have hacc : acc = uN s s.length := by rw [← h3, show e.toNat = 0 by omega, jT]; simp
  subst hacc
  refine AW.exit ?_
  simp
  refine rgn [.nilp, .sl 1 ((kP s).map zF)] [[], [], [2]] ?_
  iterate 3 refine op1 tok ?_ (hv := by first | with_reducible exact True.intro | (exact qJQ _; done) | omega | simp | (simp +contextual; omega))
  refine qA ?_
  exact AW.ret ⟨.inr rfl, _, _, by (conv => lhs; simp), trivial, by simp⟩
theorem qOW (l m : List Nat) (h1 : l.length ≤ 1000000) (h2 : m.length ≤ 1000000) : AFn Tryz.prog G 140 [.sl 1 (l.map zF), .sl 1 (m.map zF)] (.int .i64 (jR l m)) := by
 refine AFn.introU tok Tryz.func140 (by kernel_rfl) rfl rfl ?_
 simp only [Tryz.f140, qK, List.map_cons, List.map_nil]
 have hixl : ∀ k : Nat, k < l.length → l[k]? = some (l.getD k 0) := fun k h => by simp [List.getD_eq_getElem?_getD, h]
 have hixm : ∀ k : Nat, k < m.length → m[k]? = some (m.getD k 0) := fun k h => by simp [List.getD_eq_getElem?_getD, h]
 refine rgn [] [[0, 1]] ?_
 refine op1 tok ?_
 refine qA ?_
 refine AW.seq ?_
 refine rgn [] [[], [], [], [], [0, 1, 10]] ?_
 iterate 5 refine op1 tok ?_
 refine qA ?_
 refine cnd ?_ ?_
 ·intro h10
  try simp at h10
  have hN : jR l m = (l.length : Int) - m.length := by simp only [jR]; rw [if_pos (by omega)]
  refine rgn [] [[], [], [], [12, 14], [], [4]] ?_
  iterate 6 refine op1 tok ?_
  refine qA ?_
  exact AW.ret ⟨.inr rfl, _, _, by (conv => lhs; simp), trivial, by simp [hN]⟩
 ·intro h10
  try simp at h10
  have hlen : l.length = m.length := by omega
  have hN : jR l m = xE l m l.length := by simp only [jR]; rw [if_neg (by omega)]
  rw [hN]
  refine AW.skip ?_
  refine AW.seq ?_
  refine rgn [] [[], [], [], [0, 1, 5]] ?_
  iterate 4 refine op1 tok ?_
  refine qA ?_
  refine AW.block ?_
  refine AW.loop (α := Nat) (fun k => k ≤ l.length ∧ xE l m l.length = xE l m k) (fun k => ⟨qW 41 [(0, .p (.sl 1 (l.map zF))), (1, .p (.sl 1 (m.map zF))), (5, .p (.int .i64 (k - 1)))], [], [], 0⟩) (fun k => k) (l.length) ⟨Nat.le_refl _, rfl⟩ ⟨qB (by simp), rfl, by simp, by simp⟩ ?_
  rintro k ⟨hk, ht⟩
  refine AW.seq ?_
  refine rgn [] [[], [0, 1, 5, 20]] ?_
  iterate 2 refine op1 tok ?_
  refine qA ?_
  refine cnd ?_ ?_
  ·intro h20
   try simp at h20
   obtain ⟨k, rfl⟩ : ∃ j, k = j + 1 := ⟨k - 1, by omega⟩
   have hkl : k < l.length := by omega
   have hkm : k < m.length := by omega
   have hgl := hixl k hkl
   have hgm := hixm k hkm
   have hti : ((k + 1 : Nat) : Int) - 1 = k := by omega
   simp only [hti]
   generalize hx : l.getD k 0 = x at *
   generalize hy : m.getD k 0 = y at *
   simp only [xE, hx, hy] at ht
   rw [ht]
   refine AW.skip ?_
   refine AW.seq ?_
   refine AW.block ?_
   refine AW.seqRunDrawK tok mixed [0, 1, 5, 31] 9 [[0], [5], [23, 24], [25], [1], [5], [27, 28], [29], [26, 30]] [.int .u64 x, .int .u64 y] [] (by kernel_rfl) (by intro C; conv => lhs; simp) (by simp [hgl, hgm]) (by simp [Sm.sum, Sm.foot, Sm.tch, Sm.refs]; kernel_rfl) (by intro C; conv => lhs; simp) (by first | with_reducible exact True.intro | omega | simp | (simp +contextual; omega)) ?_
   refine cnd ?_ ?_
   ·intro h31
    try simp at h31
    rw [if_neg (by omega)]
    refine AW.seq ?_
    refine AW.seqRunDrawK tok mixed [40] 9 [[0], [5], [32, 33], [34], [1], [5], [36, 37], [38], [35, 39]] [.int .u64 x, .int .u64 y] [] (by kernel_rfl) (by intro C; conv => lhs; simp) (by simp [hgl, hgm]) (by simp [Sm.sum, Sm.foot, Sm.tch, Sm.refs]; kernel_rfl) (by intro C; conv => lhs; simp) (by first | with_reducible exact True.intro | omega | simp | (simp +contextual; omega)) ?_
    refine cnd ?_ ?_
    ·intro h40
     try simp at h40
     rw [if_pos (by omega)]
     refine rgn [] [[]] ?_
     refine op1 tok ?_
     refine qA ?_
     exact AW.ret ⟨.inr rfl, _, _, by (conv => lhs; simp), trivial, by simp⟩
    ·intro h40
     try simp at h40
     rw [if_neg (by omega)]
     refine AW.skip ?_
     refine rgn [] [[]] ?_
     refine op1 tok ?_
     refine qA ?_
     exact AW.ret ⟨.inr rfl, _, _, by (conv => lhs; simp), trivial, by simp⟩
   ·intro h31
    try simp at h31
    refine AW.skip ?_
    refine rgz [] [[], [], [0, 1, 5]] ?_
    iterate 3 refine op1 tok ?_
    refine qA ?_
    exact ⟨k, ⟨by omega, by rw [if_pos (by omega)]⟩, by omega, qB (by simp), rfl, by simp, by simp⟩
  ·intro h20
   try simp at h20
   have hk0 : k = 0 := by omega
   subst hk0
   rw [ht]
   simp only [xE]
   refine AW.exit ?_
   simp
   refine rgn [] [[]] ?_
   refine op1 tok ?_
   refine qA ?_
   exact AW.ret ⟨.inr rfl, _, _, by (conv => lhs; simp), trivial, by simp⟩
def wL (d : Dc) (sc : Int) : List UInt8 := d.digits ++ List.replicate (sc - d.scale).toNat 48
theorem qWG (d : Dc) (sc : Int) (h1 : d.digits.length ≤ 1000) (h2 : 0 ≤ d.scale) (h3 : d.scale ≤ sc) (h4 : sc ≤ 1000) (hd : d.digits.all qG = true) : AFn Tryz.prog G 189 [d.enc, .ref [.int .i64 sc]] (.sl 1 ((kP (wL d sc)).map zF)) := by
 refine AFn.introU tok Tryz.func189 (by kernel_rfl) rfl rfl ?_
 simp only [Tryz.f189, qK, List.map_cons, List.map_nil]
 have hre := qBR (G := G) [48] (sc - d.scale).toNat (by simp; omega)
 rw [qEJ, show (((sc - d.scale).toNat : Nat) : Int) = sc - d.scale by omega] at hre
 have hna := qLQ (G := G) (wL d sc) (kZ hd _) (by simp [wL]; omega)
 unfold wL at hna
 unfold wL
 refine rgn [] [[], [1, 2]] ?_
 iterate 2 refine op1 tok ?_
 refine qA ?_
 refine AW.seqRunDrawK tok mixed [3] 9 [[2], [4], [1], [2], [7], [6, 8], [9], [5, 10], [11]] [.nilp, .str (List.replicate (sc - d.scale).toNat 48), .nilp, .sl 1 ((kP (d.digits ++ List.replicate (sc - d.scale).toNat 48)).map zF)] [] (by kernel_rfl) (by intro C; conv => lhs; simp) (by ((repeat' (first | with_reducible apply And.intro | intro _)) <;> first | exact (hre) | exact (hna) | assumption | omega | contradiction | simp_all)) (by simp [Sm.sum, Sm.foot, Sm.tch, Sm.refs]; kernel_rfl) (by intro C; conv => lhs; simp) (by first | with_reducible exact True.intro | omega | simp | (simp +contextual; omega)) ?_
 exact AW.ret ⟨.inr rfl, _, _, by (conv => lhs; simp), trivial, by simp⟩
def qU (a b : Dc) : Int := if a.scale < b.scale then b.scale else a.scale
def okD (d : Dc) : Prop := d.digits.length ≤ 1000 ∧ 0 ≤ d.scale ∧ d.scale ≤ 1000 ∧ d.digits.all qG = true
theorem qMX (a b : Dc) (ha : okD a) (hb : okD b) : AFn Tryz.prog G 138 [a.enc, b.enc] (.tup [.sl 1 ((kP (wL a (qU a b))).map zF), .sl 1 ((kP (wL b (qU a b))).map zF), .int .i64 (qU a b)]) := by
 refine AFn.introU tok Tryz.func138 (by kernel_rfl) rfl rfl ?_
 simp only [Tryz.f138, qK, List.map_cons, List.map_nil]
 obtain ⟨a1, a2, a3, a4⟩ := ha
 obtain ⟨b1, b2, b3, b4⟩ := hb
 have hm1 : a.scale ≤ qU a b := by unfold qU; split <;> omega
 have hm2 : b.scale ≤ qU a b := by unfold qU; split <;> omega
 have hm3 : qU a b ≤ 1000 := by unfold qU; split <;> omega
 have e1 := qWG (G := G) a (qU a b) a1 a2 hm1 hm3 a4
 have e2 := qWG (G := G) b (qU a b) b1 b2 hm2 hm3 b4
 have hmx : (if a.scale < b.scale then b.scale else a.scale) = qU a b := rfl
 refine rgn [] [[], [], [], [2, 3], [2, 3]] ?_
 iterate 5 refine op1 tok ?_
 refine qA ?_
 refine rgn [] [[], [], [], [], [2, 3, 13], [], [2, 3, 7]] ?_
 iterate 7 refine op1 tok ?_
 refine qA ?_
 refine rgn [] [[], [2, 3, 7, 8]] ?_
 iterate 2 refine op1 tok ?_
 refine qA ?_
 refine AW.freezeV 7 (by conv => lhs; simp [hmx]) ?_
 refine AW.seqRunDrawK tok mixed [4, 5, 6] 9 [[8], [2], [15, 16], [8], [3], [18, 19], [7], [17], [20]] [.nilp, .sl 1 ((kP (wL a (qU a b))).map zF), .nilp, .sl 1 ((kP (wL b (qU a b))).map zF)] [] (by kernel_rfl) (by intro C; conv => lhs; simp) (by ((repeat' (first | with_reducible apply And.intro | intro _)) <;> first | exact (e1) | exact (e2) | assumption | omega | contradiction | simp_all)) (by simp [Sm.sum, Sm.foot, Sm.tch, Sm.refs]; kernel_rfl) (by intro C; conv => lhs; simp) (by first | with_reducible exact True.intro | omega | simp | (simp +contextual; omega)) ?_
 exact AW.ret ⟨.inr rfl, _, _, by (conv => lhs; simp), trivial, by simp⟩
def qAO (a b : Dc) : Int := jR (kP (wL a (qU a b))) (kP (wL b (qU a b)))
def qAA (a b : Dc) : Int := if a.neg = b.neg then (if a.neg = true then sgn (- qAO a b) else sgn (qAO a b)) else if a.neg = true then -1 else 1
theorem sgn_clamp (n : Int) : (if 1 < (if n < -1 then -1 else n) then 1 else (if n < -1 then -1 else n)) = sgn n := by unfold sgn; split <;> split <;> (try split) <;> omega
theorem cmpD_ev (a b : Dc) (ha : okD a) (hb : okD b) : AFn Tryz.prog G 103 [a.enc, b.enc] (.int .i64 (qAA a b)) := by
 refine AFn.introU tok Tryz.func103 (by kernel_rfl) rfl rfl ?_
 simp only [Tryz.f103, qK, List.map_cons, List.map_nil]
 have hal := qMX (G := G) a b ha hb
 have hl : ∀ (d : Dc), okD d → ∀ sc : Int, sc ≤ 1000 → (kP (wL d sc)).length ≤ 1000000 := fun d hd sc hs => by
  have := qDO (wL d sc); have := hd.1; have := hd.2.1; simp [wL] at *; omega
 have hm3 : qU a b ≤ 1000 := by have := ha.2.2.1; have := hb.2.2.1; unfold qU; split <;> omega
 have hcm := qOW (G := G) (kP (wL a (qU a b))) (kP (wL b (qU a b))) (hl a ha _ hm3) (hl b hb _ hm3)
 have hrg := qRN (kP (wL a (qU a b))) (kP (wL b (qU a b))) (hl a ha _ hm3) (hl b hb _ hm3)
 rw [show jR (kP (wL a (qU a b))) (kP (wL b (qU a b))) = qAO a b from rfl] at hcm hrg
 have hwn : IntKind.i64.wrap (- qAO a b) = - qAO a b := by simp [IntKind.wrap, IntKind.bits, IntKind.signed]; omega
 refine rgn [] [[], [], [2, 3]] ?_
 iterate 3 refine op1 tok ?_
 refine qA ?_
 refine rgn [.nilp, .tup [.sl 1 ((kP (wL a (qU a b))).map zF), .sl 1 ((kP (wL b (qU a b))).map zF), .int .i64 (qU a b)]] [[], [], [], [], [], [], [2, 3, 13, 14, 15], [], [], [2, 3, 5, 6]] ?_
 iterate 10 refine op1 tok ?_ (hv := by first | with_reducible exact True.intro | (exact hal; done) | omega | simp | (simp +contextual; omega))
 refine qA ?_
 refine rgn [.nilp, .int .i64 (qAO a b)] [[], [], [2, 3, 18], [2, 3, 8]] ?_
 iterate 4 refine op1 tok ?_ (hv := by first | with_reducible exact True.intro | (exact hcm; done) | omega | simp | (simp +contextual; omega))
 refine qA ?_
 refine AW.seq ?_
 refine AW.block ?_
 refine rgn [] [[], [], [], [], [2, 8, 24], [2, 8, 19]] ?_
 iterate 6 refine op1 tok ?_
 refine qA ?_
 refine cnd ?_ ?_
 ·intro h19
  try simp at h19
  refine rgn [] [[]] ?_
  refine op1 tok ?_
  refine qA ?_
  refine rgn [] [[], [8, 26]] ?_
  iterate 2 refine op1 tok ?_
  refine qA ?_
  refine cnd ?_ ?_
  ·intro h26
   try simp at h26
   have hC : qAA a b = -1 := by unfold qAA; rw [if_neg h19, if_pos h26]
   refine rgz [] [[]] ?_
   refine op1 tok ?_
   refine qA ?_
   refine rgn [] [[], [], [], [4]] ?_
   iterate 4 refine op1 tok ?_
   refine qA ?_
   exact AW.ret ⟨.inr rfl, _, _, by (conv => lhs; simp), trivial, by simp [hC]⟩
  ·intro h26
   try simp at h26
   have hC : qAA a b = 1 := by unfold qAA; rw [if_neg h19, if_neg (by simp [h26])]
   refine AW.skip ?_
   refine rgn [] [[], [], [], [4]] ?_
   iterate 4 refine op1 tok ?_
   refine qA ?_
   exact AW.ret ⟨.inr rfl, _, _, by (conv => lhs; simp), trivial, by simp [hC]⟩
 ·intro h19
  try simp at h19
  refine rgn [] [[], [], [8, 27]] ?_
  iterate 3 refine op1 tok ?_
  refine qA ?_
  refine cnd ?_ ?_
  ·intro h27
   try simp at h27
   have hC : qAA a b = sgn (- qAO a b) := by unfold qAA; rw [if_pos h19, if_pos h27]
   refine rgz [] [[], [], [8]] ?_
   iterate 3 refine op1 tok ?_
   refine qA ?_
   refine rgn [] [[], [], [], [4]] ?_
   iterate 4 refine op1 tok ?_
   refine qA ?_
   exact AW.ret ⟨.inr rfl, _, _, by (conv => lhs; simp), trivial, by (simp [hwn, hC]; unfold sgn; (repeat' split) <;> omega)⟩
  ·intro h27
   try simp at h27
   have hC : qAA a b = sgn (qAO a b) := by unfold qAA; rw [if_pos h19, if_neg (by simp [h27])]
   refine AW.skip ?_
   refine rgn [] [[], [], [], [4]] ?_
   iterate 4 refine op1 tok ?_
   refine qA ?_
   exact AW.ret ⟨.inr rfl, _, _, by (conv => lhs; simp), trivial, by simp [sgn_clamp, hC]⟩
theorem zN {d : Dc} (h : zC d = true) : okD d ∧ d.digits.length ≤ 60 ∧ d.scale ≤ 60 := by
 unfold zC at h
 simp only [Bool.and_eq_true, decide_eq_true_eq] at h
 obtain ⟨⟨h1, h2⟩, _⟩ := h
 exact ⟨⟨by omega, by omega, by omega, h1⟩, by omega, by omega⟩
def qN (d : Dc) : Nat := qJ d.digits * 10 ^ (60 - d.scale.toNat)
def qD (d : Dc) : Int := if d.neg = true then - (qN d : Int) else qN d
theorem qZL {a : Int} {k : Int} (hk : 0 < k) : sgn (a * k) = sgn a := by
 unfold sgn
 by_cases h1 : a < 0
 ·rw [if_pos h1, if_pos (Int.mul_neg_of_neg_of_pos h1 hk)]
 ·rw [if_neg h1]
  by_cases h2 : a = 0
  ·subst h2; simp
  ·have := Int.mul_pos (show 0 < a by omega) hk
   rw [if_neg h2, if_neg (by omega), if_neg (by omega)]
theorem raw_spec {a b : Dc} (ha : zC a = true) (hb : zC b = true) : sgn (qAO a b) = sgn ((qN a : Int) - qN b) := by
 obtain ⟨⟨a1, a2, a3, a4⟩, a5, a6⟩ := zN ha
 obtain ⟨⟨b1, b2, b3, b4⟩, b5, b6⟩ := zN hb
 have hm1 : a.scale ≤ qU a b := by unfold qU; split <;> omega
 have hm2 : b.scale ≤ qU a b := by unfold qU; split <;> omega
 have hm3 : qU a b ≤ 60 := by unfold qU; split <;> omega
 unfold qAO wL
 rw [qJD (qBG (kZ a4 _)) (qBG (kZ b4 _)), qBF (kZ a4 _), qBF (kZ b4 _), uF, uF]
 have ea : (qN a : Int) = ((qJ a.digits * 10 ^ (qU a b - a.scale).toNat : Nat) : Int) * ((10 ^ (60 - (qU a b).toNat) : Nat) : Int) := by
  rw [← Int.natCast_mul, Nat.mul_assoc, ← Nat.pow_add, show (qU a b - a.scale).toNat + (60 - (qU a b).toNat) = 60 - a.scale.toNat by omega]; rfl
 have eb : (qN b : Int) = ((qJ b.digits * 10 ^ (qU a b - b.scale).toNat : Nat) : Int) * ((10 ^ (60 - (qU a b).toNat) : Nat) : Int) := by
  rw [← Int.natCast_mul, Nat.mul_assoc, ← Nat.pow_add, show (qU a b - b.scale).toNat + (60 - (qU a b).toNat) = 60 - b.scale.toNat by omega]; rfl
 rw [ea, eb, ← Int.sub_mul, qZL (by have := Nat.pow_pos (n := 60 - (qU a b).toNat) (show 0 < 10 by omega); omega)]
theorem qZK (n : Int) : sgn (- n) = - sgn n := by unfold sgn; split <;> split <;> (try split) <;> omega
theorem xD {s : List UInt8} (hd : s.all qG = true) (hl : 0 < s.length) (h : qM s 0 ≠ 48) : 10 ^ (s.length - 1) ≤ qJ s := by
 cases s with
 | nil => simp at hl
 | cons b s =>
  simp only [List.all_cons, Bool.and_eq_true] at hd
  have h1 := (zP b).1 hd.1
  have h2 : b.toNat ≠ 48 := by simp [qM] at h; omega
  rw [yD]
  have := Nat.mul_le_mul_right (10 ^ s.length) (show 1 ≤ b.toNat - 48 by omega)
  simp; omega
theorem qZO {d : Dc} (h : zC d = true) (h0 : qN d = 0) : d.neg = false := by
 have hk := zN h
 unfold zC at h
 simp only [Bool.and_eq_true, decide_eq_true_eq] at h
 obtain ⟨⟨h1, h2⟩, h3⟩ := h
 by_cases hz : d.digits = [48]
 ·rw [if_pos hz] at h3; simp at h3; exact h3.2
 ·rw [if_neg hz] at h3
  simp at h3
  have := xD h1 (by omega) h3.1
  have hp := Nat.pow_pos (n := d.digits.length - 1) (show 0 < 10 by omega)
  have hq : 0 < qN d := Nat.mul_pos (by omega) (Nat.pow_pos (by omega))
  omega
theorem cmpD_spec {a b : Dc} (ha : zC a = true) (hb : zC b = true) : qAA a b = sgn (qD a - qD b) := by
 have hr := raw_spec ha hb
 unfold qAA
 by_cases h : a.neg = b.neg
 ·rw [if_pos h]
  unfold qD
  rw [← h]
  split
  ·rw [qZK, hr, ← qZK]; congr 1; omega
  ·exact hr
 ·rw [if_neg h]
  have hz1 := fun h0 => qZO ha h0
  have hz2 := fun h0 => qZO hb h0
  unfold qD
  cases hna : a.neg with
  | true =>
   have hnb : b.neg = false := by rw [hna] at h; simpa using h
   have : qN a ≠ 0 := fun e => by have := hz1 e; rw [hna] at this; cases this
   rw [hnb]; simp [sgn]; omega
  | false =>
   have hnb : b.neg = true := by rw [hna] at h; simpa using h
   have : qN b ≠ 0 := fun e => by have := hz2 e; rw [hnb] at this; cases this
   rw [hnb]; simp [sgn]; omega
def xH (s : List UInt8) (i : Nat) : Nat → Nat → Int → Option Int
 | 0, _, v => some v
 | r + 1, j, v => match s[i + j]? with
  | none => none
  | some c => if (c.toNat : Int) < 128 ∨ 192 ≤ (c.toNat : Int) then none else xH s i r (j + 1) (64 * v + c.toNat - 128)
def kI (c : Int) : Nat × Int × Int :=
 if 194 ≤ c ∧ c < 224 then (2, 128, c - 192) else if 224 ≤ c ∧ c < 240 then (3, 2048, c - 224) else if 240 ≤ c ∧ c < 245 then (4, 65536, c - 240) else (0, 0, 0)
def qLA (low : Int) (need : Nat) : Option Int → Int × Int
 | none => (0, 0)
 | some v => if v < low ∨ v > 1114111 ∨ (55296 ≤ v ∧ v < 57344) then (0, 0) else (v, need)
def kO (s : List UInt8) (i : Nat) (x : Nat × Int × Int) : Int × Int := if x.1 = 0 ∨ s.length < i + x.1 then (0, 0) else qLA x.2.1 x.1 (xH s i (x.1 - 1) 1 x.2.2)
def wJ (s : List UInt8) (i : Nat) : Int × Int := match s[i]? with
 | none => (0, 0)
 | some b => if (b.toNat : Int) < 128 then (b.toNat, 1) else kO s i (kI b.toNat)
def rS (s : List UInt8) (i : Nat) (x : Nat × Int × Int) : St := ⟨[.p (.str s), .p (.int .i64 i), .dead, .dead, .p (.int .i64 0), .p (.int .i64 0), .dead, .p (.int .i64 x.1), .p (.int .i64 x.2.1), .p (.int .i64 x.2.2)] ++ List.replicate 86 .dead, [], [], 0⟩
def rS2 (s : List UInt8) (i : Nat) (need : Nat) (low : Int) (a : Nat × Int) : St := ⟨[.p (.str s), .p (.int .i64 i), .dead, .dead, .p (.int .i64 0), .p (.int .i64 0), .dead, .p (.int .i64 need), .p (.int .i64 low), .p (.int .i64 a.2), .p (.int .i64 a.1)] ++ List.replicate 85 .dead, [], [], 0⟩
theorem Rune_ev (s : List UInt8) (i : Nat) (hi : i < s.length) (hs : s.length ≤ 1000000000) : AFn Tryz.prog G 133 [.str s, .int .i64 i] (.tup [.int .i64 (wJ s i).1, .int .i64 (wJ s i).2]) := by
 refine AFn.intro tok Tryz.func133 (by kernel_rfl) rfl ?_
 simp only [Tryz.f133, St.start]
 obtain ⟨b, hb⟩ : ∃ b, s[i]? = some b := ⟨s[i], by simp [hi]⟩
 have hblt : b.toNat < 256 := b.toNat_lt
 have hrune : wJ s i = if (b.toNat : Int) < 128 then ((b.toNat : Int), 1) else kO s i (kI b.toNat) := by simp only [wJ, hb]
 refine AW.seqRun tok [] (by intro C; conv => lhs; simp) trivial ?_
 refine AW.seqRun tok [.int .u8 b.toNat] (by intro C; conv => lhs; simp) (by simp [hb]) ?_
 refine AW.seqRun tok [] (by intro C; conv => lhs; simp) trivial ?_
 refine AW.seqRun tok [] (by intro C; conv => lhs; simp) trivial ?_
 refine AW.seqRun tok [] (by intro C; conv => lhs; simp) trivial ?_
 refine AW.join (α := Nat × Int × Int) (fun x => wJ s i = kO s i x ∧ x.1 ≤ 4 ∧ 0 ≤ x.2.2 ∧ x.2.2 ≤ 40) (fun x => rS s i x) ?_ ?_
 ·refine AW.block ?_
  refine AW.seqRun tok [] (by intro C; conv => lhs; simp) trivial ?_
  refine AW.cond (c := .tmp 16) (by conv => lhs; simp) trivial ?_ ?_
  ·intro h1
   simp at h1
   refine AW.seqRun tok [] (by intro C; conv => lhs; simp) trivial ?_
   exact AW.ret ⟨.inr rfl, _, _, by (conv => lhs; simp), trivial, by rw [hrune, if_pos h1]; simp⟩
  ·intro h1
   simp at h1
   have hr2 : wJ s i = kO s i (kI b.toNat) := by rw [hrune, if_neg (by omega)]
   refine AW.seqRun tok [] (by intro C; conv => lhs; simp) (by simp) ?_
   refine AW.cond (c := .tmp 20) (by conv => lhs; simp) trivial ?_ ?_
   ·intro h2
    simp at h2
    refine AW.seqRun tok [] (by intro C; conv => lhs; simp) trivial ?_
    refine AW.seqRun tok [] (by intro C; conv => lhs; simp) trivial ?_
    refine AW.run tok [] (by intro C; conv => lhs; simp) (by omega) ?_
    exact ⟨(2, 128, b.toNat - 192), ⟨by rw [hr2]; simp [kI, h2], by simp, by simp; omega, by simp; omega⟩, by simp [rS], rfl, by simp [rS], by simp [rS]⟩
   ·intro h2
    refine AW.seqRun tok [] (by intro C; conv => lhs; simp) (by simp) ?_
    refine AW.cond (c := .tmp 29) (by conv => lhs; simp) trivial ?_ ?_
    ·intro h3
     simp at h3
     refine AW.seqRun tok [] (by intro C; conv => lhs; simp) trivial ?_
     refine AW.seqRun tok [] (by intro C; conv => lhs; simp) trivial ?_
     refine AW.run tok [] (by intro C; conv => lhs; simp) (by omega) ?_
     exact ⟨(3, 2048, b.toNat - 224), ⟨by rw [hr2]; simp [kI, h3, show ¬ ((b.toNat : Int) < 224) by omega], by simp, by simp; omega, by simp; omega⟩, by simp [rS], rfl, by simp [rS], by simp [rS]⟩
    ·intro h3
     refine AW.seqRun tok [] (by intro C; conv => lhs; simp) (by simp) ?_
     refine AW.cond (c := .tmp 38) (by conv => lhs; simp) trivial ?_ ?_
     ·intro h4
      simp at h4
      refine AW.seqRun tok [] (by intro C; conv => lhs; simp) trivial ?_
      refine AW.seqRun tok [] (by intro C; conv => lhs; simp) trivial ?_
      refine AW.run tok [] (by intro C; conv => lhs; simp) (by omega) ?_
      exact ⟨(4, 65536, b.toNat - 240), ⟨by rw [hr2]; simp [kI, h4, show ¬ ((b.toNat : Int) < 224) by omega, show ¬ ((b.toNat : Int) < 240) by omega], by simp, by simp; omega, by simp; omega⟩, by simp [rS], rfl, by simp [rS], by simp [rS]⟩
     ·intro h4
      simp at h2 h3 h4
      refine AW.skip ?_
      exact ⟨(0, 0, 0), ⟨by rw [hr2]; simp [kI, show ¬ (194 ≤ (b.toNat : Int) ∧ (b.toNat : Int) < 224) by omega, show ¬ (224 ≤ (b.toNat : Int) ∧ (b.toNat : Int) < 240) by omega, show ¬ (240 ≤ (b.toNat : Int) ∧ (b.toNat : Int) < 245) by omega],
       by simp, by simp, by simp⟩, by simp [rS], rfl, by simp [rS], by simp [rS]⟩
 ·rintro ⟨need, low, v0⟩ ⟨hr, hneed, hv0, hv1⟩
  simp only at hneed hv0 hv1
  simp only [rS]
  rw [hr]
  refine AW.seq ?_
  refine AW.seqRun tok [] (by intro C; conv => lhs; simp) (by simp +contextual; omega) ?_
  refine AW.cond (c := .tmp 56) (by conv => lhs; simp) trivial ?_ ?_
  ·intro h1
   simp at h1
   refine AW.seqRun tok [] (by intro C; conv => lhs; simp) trivial ?_
   exact AW.ret ⟨.inr rfl, _, _, by (conv => lhs; simp), trivial, by simp [kO, show need = 0 ∨ s.length < i + need by omega]⟩
  ·intro h1
   simp at h1
   have hfit : ¬ (need = 0 ∨ s.length < i + need) := by omega
   have htl : kO s i (need, low, v0) = qLA low need (xH s i (need - 1) 1 v0) := by simp only [kO]; rw [if_neg hfit]
   rw [htl]
   refine AW.skip ?_
   refine AW.seq ?_
   refine AW.seqRun tok [] (by intro C; conv => lhs; simp) trivial ?_
   refine AW.block ?_
   refine AW.loop (α := Nat × Int) (fun a => 1 ≤ a.1 ∧ a.1 ≤ need ∧ xH s i (need - 1) 1 v0 = xH s i (need - a.1) a.1 a.2 ∧ 0 ≤ a.2 ∧ (a.1 = 1 → a.2 ≤ 40) ∧ (a.1 = 2 → a.2 ≤ 3000) ∧ (a.1 = 3 → a.2 ≤ 200000) ∧ (a.1 = 4 → a.2 ≤ 14000000))
    (fun a => rS2 s i need low a) (fun a => need - a.1) (1, v0) ⟨by simp, by omega, rfl, hv0, fun _ => hv1, by simp, by simp, by simp⟩ ⟨by simp [rS2], rfl, by simp [rS2], by simp [rS2]⟩ ?_
   rintro ⟨j, v⟩ ⟨hj1, hj2, hlp, hv, hb1, hb2, hb3, hb4⟩
   simp only at hj1 hj2 hlp hv hb1 hb2 hb3 hb4
   simp only [rS2]
   refine AW.seq ?_
   refine AW.seqRun tok [] (by intro C; conv => lhs; simp) trivial ?_
   refine AW.cond (c := .tmp 59) (by conv => lhs; simp) trivial ?_ ?_
   ·intro h4
    simp at h4
    obtain ⟨c, hc⟩ : ∃ c, s[i + j]? = some c := ⟨s[i + j]'(by omega), by simp [show i + j < s.length by omega]⟩
    have hclt : c.toNat < 256 := c.toNat_lt
    have hstep : xH s i (need - j) j v = if (c.toNat : Int) < 128 ∨ 192 ≤ (c.toNat : Int) then none else xH s i (need - (j + 1)) (j + 1) (64 * v + c.toNat - 128) := by
     rw [show need - j = (need - (j + 1)) + 1 by omega]; simp only [xH, hc]
    refine AW.skip ?_
    refine AW.seq ?_
    refine AW.block ?_
    refine AW.seqRun tok [.int .u8 c.toNat] (by intro C; conv => lhs; simp) (by rw [show ((i : Int) + j).toNat = i + j by omega]; simp [hc]; omega) ?_
    refine AW.seq ?_
    refine AW.seqRun tok [] (by intro C; conv => lhs; simp) (by simp) ?_
    refine AW.cond (c := .tmp 73) (by conv => lhs; simp) trivial ?_ ?_
    ·intro h5
     simp at h5
     refine AW.seqRun tok [] (by intro C; conv => lhs; simp) trivial ?_
     exact AW.ret ⟨.inr rfl, _, _, by (conv => lhs; simp), trivial, by rw [hlp, hstep, if_pos (by omega)]; simp [qLA]⟩
    ·intro h5
     simp at h5
     refine AW.skip ?_
     refine AW.run tok [] (by intro C; conv => lhs; simp) (by omega) ?_
     refine AW.run tok [] (by intro C; conv => lhs; simp) (by omega) ?_
     exact ⟨(j + 1, 64 * v + c.toNat - 128), ⟨by simp, by simp; omega, by rw [hlp, hstep, if_neg (by omega)], by simp; omega, by simp; omega, by simp; omega, by simp; omega, by simp; omega⟩, by simp; omega, by simp [rS2], rfl, by simp [rS2], by simp [rS2]⟩
   ·intro h4
    simp at h4
    have hjn : j = need := by omega
    subst hjn
    rw [hlp]
    simp only [Nat.sub_self, xH]
    refine AW.exit ?_
    simp
    refine AW.seq ?_
    refine AW.seqRun tok [] (by intro C; conv => lhs; simp) (by omega) ?_
    refine AW.cond (c := .tmp 93) (by conv => lhs; simp) trivial ?_ ?_
    ·intro h5
     simp at h5
     refine AW.seqRun tok [] (by intro C; conv => lhs; simp) trivial ?_
     exact AW.ret ⟨.inr rfl, _, _, by (conv => lhs; simp), trivial, by simp only [qLA]; rw [if_pos (by omega)]; simp⟩
    ·intro h5
     simp at h5
     refine AW.skip ?_
     refine AW.seqRun tok [] (by intro C; conv => lhs; simp) trivial ?_
     exact AW.ret ⟨.inr rfl, _, _, by (conv => lhs; simp), trivial, by simp only [qLA]; rw [if_neg (by omega)]; simp⟩
theorem qOO (s : List UInt8) (i : Nat) (hi : i < s.length) : 0 ≤ (wJ s i).2 ∧ (i : Int) + (wJ s i).2 ≤ s.length ∧ (wJ s i).2 ≤ 4 := by
 unfold wJ
 split
 ·simp; omega
 ·rename_i b hb
  split
  ·simp; omega
  ·have h4 : (kI b.toNat).1 ≤ 4 := by
    unfold kI; split
    ·simp
    ·split
     ·simp
     ·split <;> simp
   generalize kI b.toNat = x at h4
   unfold kO
   split
   ·simp; omega
   ·rename_i h
    have h' : i + x.1 ≤ s.length := by omega
    unfold qLA
    split
    ·simp; omega
    ·split
     ·simp; omega
     ·simp only; omega
theorem qYT {s : List UInt8} {j : Nat} {c : UInt8} (h : s[j]? = some c) : (⟨s.toArray⟩ : ByteArray).get! j = c := by
 have hj := (List.getElem?_eq_some_iff.1 h).1
 have hc := (List.getElem?_eq_some_iff.1 h).2
 show s.toArray[j]! = c
 rw [getElem!_pos s.toArray j (by simpa using hj)]
 simpa using hc
def jB (o : Option UInt8) : Nat := match o with
 | some c => c.toNat
 | none => 0
def yI (o : Option UInt8) : Bool := match o with
 | some c => c.toNat / 64 == 2
 | none => false
def qMO (b0 : Nat) (o1 o2 o3 : Option UInt8) : Nat × Nat :=
 if b0 < 0x80 then (b0, 1)
 else if b0 / 32 == 6 && yI o1 then
  if (b0 % 32) * 64 + jB o1 % 64 ≥ 0x80 then ((b0 % 32) * 64 + jB o1 % 64, 2) else (65533, 1)
 else if b0 / 16 == 14 && yI o1 && yI o2 then
  if (b0 % 16) * 4096 + (jB o1 % 64) * 64 + jB o2 % 64 ≥ 0x800 && Utf8.valid ((b0 % 16) * 4096 + (jB o1 % 64) * 64 + jB o2 % 64 : Nat) then ((b0 % 16) * 4096 + (jB o1 % 64) * 64 + jB o2 % 64, 3) else (65533, 1)
 else if b0 / 8 == 30 && yI o1 && yI o2 && yI o3 then
  if (b0 % 8) * 262144 + (jB o1 % 64) * 4096 + (jB o2 % 64) * 64 + jB o3 % 64 ≥ 0x10000 && Utf8.valid ((b0 % 8) * 262144 + (jB o1 % 64) * 4096 + (jB o2 % 64) * 64 + jB o3 % 64 : Nat) then
   ((b0 % 8) * 262144 + (jB o1 % 64) * 4096 + (jB o2 % 64) * 64 + jB o3 % 64, 4) else (65533, 1)
 else (65533, 1)
theorem decode_O {s : List UInt8} {i : Nat} {b : UInt8} (h : s[i]? = some b) : Utf8.decode ⟨s.toArray⟩ i = qMO b.toNat s[i + 1]? s[i + 2]? s[i + 3]? := by
 have hsz : (⟨s.toArray⟩ : ByteArray).size = s.length := by simp [ByteArray.size]
 have cont : ∀ k, (decide (i + k < (⟨s.toArray⟩ : ByteArray).size) && ((⟨s.toArray⟩ : ByteArray).get! (i + k)).toNat / 64 == 2) = yI s[i + k]? := by
  intro k
  rw [hsz]
  cases hk : s[i + k]? with
  | none =>
   have : ¬ i + k < s.length := by have := List.getElem?_eq_none_iff.1 hk; omega
   simp [yI, this]
  | some c =>
   have := (List.getElem?_eq_some_iff.1 hk).1
   simp [yI, this, qYT hk]
 have byt : ∀ k, yI s[i + k]? = true → ((⟨s.toArray⟩ : ByteArray).get! (i + k)).toNat = jB s[i + k]? := by
  intro k hk
  cases hc : s[i + k]? with
  | none => rw [hc] at hk; cases hk
  | some c => rw [qYT hc]; rfl
 have b0 : ((⟨s.toArray⟩ : ByteArray).get! (i + 0)).toNat = b.toNat := by rw [Nat.add_zero, qYT h]
 unfold Utf8.decode qMO
 simp only [cont, b0]
 by_cases h1 : yI s[i + 1]? = true
 ·rw [byt 1 h1]
  by_cases h2 : yI s[i + 2]? = true
  ·rw [byt 2 h2]
   by_cases h3 : yI s[i + 3]? = true
   ·rw [byt 3 h3]; simp only [h1, h2, h3]; rfl
   ·simp only [h1, h2, h3, Bool.and_false, Bool.false_eq_true, if_false]; rfl
  ·simp only [h1, h2, Bool.and_false, Bool.false_and, Bool.false_eq_true, if_false]; rfl
 ·simp only [h1, Bool.and_false, Bool.false_and, Bool.false_eq_true, if_false]; rfl
theorem fin_case (low v : Int) (m k : Nat) (hk : k ≠ 0) (hv : v = (m : Int)) : (if (qLA low k (some v)).2 = 0 then ((65533 : Nat), (1 : Nat)) else ((qLA low k (some v)).1.toNat, (qLA low k (some v)).2.toNat)) =
  if (m : Int) < low ∨ (m : Int) > 1114111 ∨ (55296 ≤ (m : Int) ∧ (m : Int) < 57344) then (65533, 1) else (m, k) := by
 subst hv
 unfold qLA
 by_cases h : (m : Int) < low ∨ (m : Int) > 1114111 ∨ (55296 ≤ (m : Int) ∧ (m : Int) < 57344)
 ·simp only [h, if_true]
 ·simp only [h, if_false]
  rw [if_neg (by omega)]
  rfl
theorem qFE (m : Nat) : Utf8.valid (m : Int) = decide (¬ ((m : Int) > 1114111 ∨ (55296 ≤ (m : Int) ∧ (m : Int) < 57344))) := by
 rw [Bool.eq_iff_iff]; simp only [Utf8.valid, Bool.or_eq_true, Bool.and_eq_true, decide_eq_true_eq]; omega
theorem isC (c : UInt8) : (c.toNat / 64 == 2) = decide (128 ≤ c.toNat ∧ c.toNat < 192) := by rw [Bool.eq_iff_iff]; simp only [beq_iff_eq, decide_eq_true_eq]; omega
theorem wX (c : UInt8) : yI (some c) = decide (128 ≤ c.toNat ∧ c.toNat < 192) := isC c
theorem jI {s : List UInt8} {i r j : Nat} {v : Int} {c : UInt8} (h : s[i + j]? = some c) (hc : 128 ≤ c.toNat ∧ c.toNat < 192) : xH s i (r + 1) j v = xH s i r (j + 1) (64 * v + c.toNat - 128) := by
 simp only [xH, h]; rw [if_neg (by omega)]
theorem qBB {s : List UInt8} {i r j : Nat} {v : Int} {c : UInt8} (h : s[i + j]? = some c) (hc : ¬ (128 ≤ c.toNat ∧ c.toNat < 192)) : xH s i (r + 1) j v = none := by
 simp only [xH, h]; rw [if_pos (by omega)]
theorem jL {n : Nat} {o1 o2 o3 : Option UInt8} (h0 : ¬ n < 128) (h : (n / 32 = 6 → yI o1 = true → n % 32 * 64 + jB o1 % 64 < 128) ∧ (n / 16 = 14 → yI o1 = true → yI o2 = false) ∧ (n / 8 = 30 → yI o1 = true → yI o2 = true → yI o3 = true → 1114111 < n % 8 * 262144)) :
  qMO n o1 o2 o3 = (65533, 1) := by
 obtain ⟨h1, h2, h3⟩ := h
 unfold qMO
 rw [if_neg h0]
 by_cases a : n / 32 = 6
 ·have b : ¬ n / 16 = 14 := by omega
  have c : ¬ n / 8 = 30 := by omega
  cases hc : yI o1 with
  | true => simp only [a, beq_self_eq_true, Bool.and_self, if_true]; rw [if_neg (by have := h1 a hc; omega)]
  | false => simp [a, b, c]
 ·by_cases b : n / 16 = 14
  ·have c : ¬ n / 8 = 30 := by omega
   cases hc : yI o1 with
   | true => simp [a, b, c, h2 b hc]
   | false => simp [a, b, c]
  ·by_cases c : n / 8 = 30
   ·cases hc1 : yI o1 with
    | false => simp [a, b]
    | true =>
     cases hc2 : yI o2 with
     | false => simp [a, b]
     | true =>
      cases hc3 : yI o3 with
      | false => simp [a, b]
      | true =>
       have hb := h3 c hc1 hc2 hc3
       simp only [a, b, c, beq_iff_eq, beq_self_eq_true, Bool.false_and, Bool.and_self, Bool.and_true, if_false, if_true, Bool.false_eq_true]
       rw [if_neg]
       rw [qFE]
       simp only [Bool.and_eq_true, decide_eq_true_eq]
       omega
   ·simp [a, b, c]
theorem decO_2 {n : Nat} {c : UInt8} {o2 o3 : Option UInt8} (h0 : ¬ n < 128) (hn : n / 32 = 6) (hc : 128 ≤ c.toNat ∧ c.toNat < 192) :
  qMO n (some c) o2 o3 = if n % 32 * 64 + c.toNat % 64 ≥ 128 then (n % 32 * 64 + c.toNat % 64, 2) else (65533, 1) := by
 have h1 : yI (some c) = true := by rw [wX]; exact decide_eq_true hc
 unfold qMO
 rw [if_neg h0, if_pos (by rw [h1, hn]; rfl)]
 rfl
theorem decO_3 {n : Nat} {c d : UInt8} {o3 : Option UInt8} (h0 : ¬ n < 128) (hn : n / 16 = 14) (hc : 128 ≤ c.toNat ∧ c.toNat < 192) (hd : 128 ≤ d.toNat ∧ d.toNat < 192) {m : Nat} (hm : m = n % 16 * 4096 + c.toNat % 64 * 64 + d.toNat % 64) :
  qMO n (some c) (some d) o3 = if (m : Int) < 2048 ∨ (m : Int) > 1114111 ∨ (55296 ≤ (m : Int) ∧ (m : Int) < 57344) then (65533, 1) else (m, 3) := by
 have h1 : yI (some c) = true := by rw [wX]; exact decide_eq_true hc
 have h2 : yI (some d) = true := by rw [wX]; exact decide_eq_true hd
 have e1 : ¬ n / 32 = 6 := by omega
 unfold qMO
 rw [if_neg h0, if_neg (by rw [h1]; simp [e1]), if_pos (by rw [h1, h2, hn]; rfl)]
 simp only [jB, ← hm, qFE]
 clear hm
 by_cases hb : (m : Int) < 2048 ∨ (m : Int) > 1114111 ∨ 55296 ≤ (m : Int) ∧ (m : Int) < 57344
 ·rw [if_pos hb, if_neg]; simp only [Bool.and_eq_true, decide_eq_true_eq]; omega
 ·rw [if_neg hb, if_pos]; simp only [Bool.and_eq_true, decide_eq_true_eq]; omega
theorem decO_4 {n : Nat} {c d e : UInt8} (h0 : ¬ n < 128) (hn : n / 8 = 30) (hc : 128 ≤ c.toNat ∧ c.toNat < 192) (hd : 128 ≤ d.toNat ∧ d.toNat < 192) (he : 128 ≤ e.toNat ∧ e.toNat < 192) {m : Nat}
  (hm : m = n % 8 * 262144 + c.toNat % 64 * 4096 + d.toNat % 64 * 64 + e.toNat % 64) :
  qMO n (some c) (some d) (some e) = if (m : Int) < 65536 ∨ (m : Int) > 1114111 ∨ (55296 ≤ (m : Int) ∧ (m : Int) < 57344) then (65533, 1) else (m, 4) := by
 have h1 : yI (some c) = true := by rw [wX]; exact decide_eq_true hc
 have h2 : yI (some d) = true := by rw [wX]; exact decide_eq_true hd
 have h3 : yI (some e) = true := by rw [wX]; exact decide_eq_true he
 have e1 : ¬ n / 32 = 6 := by omega
 have e2 : ¬ n / 16 = 14 := by omega
 unfold qMO
 rw [if_neg h0, if_neg (by rw [h1]; simp [e1]), if_neg (by rw [h1, h2]; simp [e2]), if_pos (by rw [h1, h2, h3, hn]; rfl)]
 simp only [jB, ← hm, qFE]
 clear hm
 by_cases hb : (m : Int) < 65536 ∨ (m : Int) > 1114111 ∨ 55296 ≤ (m : Int) ∧ (m : Int) < 57344
 ·rw [if_pos hb, if_neg]; simp only [Bool.and_eq_true, decide_eq_true_eq]; omega
 ·rw [if_neg hb, if_pos]; simp only [Bool.and_eq_true, decide_eq_true_eq]; omega
theorem qTY {s : List UInt8} {i : Nat} (hi : i < s.length) : Utf8.decode ⟨s.toArray⟩ i = if (wJ s i).2 = 0 then (65533, 1) else ((wJ s i).1.toNat, (wJ s i).2.toNat) := by
 obtain ⟨b, hb⟩ : ∃ b, s[i]? = some b := ⟨s[i], by simp [hi]⟩
 rw [decode_O hb]
 have hblt : b.toNat < 256 := b.toNat_lt
 have hr : wJ s i = if (b.toNat : Int) < 128 then ((b.toNat : Int), 1) else kO s i (kI b.toNat) := by simp only [wJ, hb]
 have in1 : ∀ k, s[i + k]? = none ↔ s.length ≤ i + k := fun k => List.getElem?_eq_none_iff
 have has : ∀ k, i + k < s.length → ∃ c, s[i + k]? = some c := fun k hk => ⟨s[i + k], by simp [hk]⟩
 generalize b.toNat = n at hblt hr
 by_cases h0 : n < 128
 ·rw [if_pos (by omega)] at hr
  rw [hr]
  simp [qMO, h0]
 rw [if_neg (by omega)] at hr
 rw [hr]
 clear hr
 have tail0 : ∀ x : Nat × Int × Int, (x.1 = 0 ∨ s.length < i + x.1) → (if (kO s i x).2 = 0 then ((65533 : Nat), (1 : Nat)) else ((kO s i x).1.toNat, (kO s i x).2.toNat)) = (65533, 1) := by
  intro x hx; unfold kO; rw [if_pos hx]; rfl
 have tailn : ∀ x : Nat × Int × Int, ¬ (x.1 = 0 ∨ s.length < i + x.1) → xH s i (x.1 - 1) 1 x.2.2 = none → (if (kO s i x).2 = 0 then ((65533 : Nat), (1 : Nat)) else ((kO s i x).1.toNat, (kO s i x).2.toNat)) = (65533, 1) := by
  intro x hx hn; unfold kO; rw [if_neg hx, hn]; rfl
 have tails : ∀ (x : Nat × Int × Int) (v : Int) (m : Nat), ¬ (x.1 = 0 ∨ s.length < i + x.1) → xH s i (x.1 - 1) 1 x.2.2 = some v → v = m → (if (kO s i x).2 = 0 then ((65533 : Nat), (1 : Nat)) else ((kO s i x).1.toNat, (kO s i x).2.toNat)) =
   if (m : Int) < x.2.1 ∨ (m : Int) > 1114111 ∨ (55296 ≤ (m : Int) ∧ (m : Int) < 57344) then (65533, 1) else (m, x.1) := by
  intro x v m hx hl hv; unfold kO; rw [if_neg hx, hl]; exact fin_case _ _ _ _ (by omega) hv
 by_cases hA : 194 ≤ n ∧ n < 224
 ·have hrc : kI n = (2, 128, (n : Int) - 192) := by unfold kI; rw [if_pos (by omega)]
  rw [hrc]
  by_cases hl : s.length < i + 2
  ·rw [tail0 _ (Or.inr hl)]
   refine jL h0 ⟨fun _ h => ?_, fun h => by omega, fun h => by omega⟩
   rw [(in1 1).2 (by omega)] at h; cases h
  obtain ⟨c, h1⟩ := has 1 (by omega)
  rw [h1]
  by_cases hc : 128 ≤ c.toNat ∧ c.toNat < 192
  ·rw [tails (2, 128, (n : Int) - 192) _ (n % 32 * 64 + c.toNat % 64) (by simp; omega) (by rw [show (2 : Nat) - 1 = 0 + 1 from rfl, jI h1 hc]; rfl) (by simp only []; omega)]
   rw [decO_2 h0 (by omega) hc, if_pos (by omega), if_neg (by simp only []; omega)]
  ·rw [tailn _ (by simp; omega) (by rw [show ((2 : Nat), (128 : Int), (n : Int) - 192).1 - 1 = 0 + 1 from rfl, qBB h1 hc])]
   refine jL h0 ⟨fun _ h => ?_, fun h => by omega, fun h => by omega⟩
   rw [wX] at h; exact (hc (of_decide_eq_true h)).elim
 by_cases hB : 224 ≤ n ∧ n < 240
 ·have hrc : kI n = (3, 2048, (n : Int) - 224) := by unfold kI; rw [if_neg (by omega), if_pos (by omega)]
  rw [hrc]
  by_cases hl : s.length < i + 3
  ·rw [tail0 _ (Or.inr hl)]
   refine jL h0 ⟨fun h => by omega, fun _ _ => ?_, fun h => by omega⟩
   rw [(in1 2).2 (by omega)]; rfl
  obtain ⟨c, h1⟩ := has 1 (by omega)
  obtain ⟨d, h2⟩ := has 2 (by omega)
  rw [h1, h2]
  by_cases hc : 128 ≤ c.toNat ∧ c.toNat < 192
  ·by_cases hd : 128 ≤ d.toNat ∧ d.toNat < 192
   ·rw [tails (3, 2048, (n : Int) - 224) _ (n % 16 * 4096 + c.toNat % 64 * 64 + d.toNat % 64) (by simp; omega) (by rw [show (3 : Nat) - 1 = 1 + 1 from rfl, jI h1 hc, show (1 : Nat) = 0 + 1 from rfl, jI h2 hd]; rfl) (by simp only []; omega)]
    exact decO_3 h0 (by omega) hc hd rfl
   ·rw [tailn _ (by simp; omega) (by rw [show ((3 : Nat), (2048 : Int), (n : Int) - 224).1 - 1 = 1 + 1 from rfl, jI h1 hc, show (1 : Nat) = 0 + 1 from rfl, qBB h2 hd])]
    refine jL h0 ⟨fun h => by omega, fun _ _ => ?_, fun h => by omega⟩
    rw [wX]; exact decide_eq_false hd
  ·rw [tailn _ (by simp; omega) (by rw [show ((3 : Nat), (2048 : Int), (n : Int) - 224).1 - 1 = 1 + 1 from rfl, qBB h1 hc])]
   refine jL h0 ⟨fun h => by omega, fun _ h => ?_, fun h => by omega⟩
   rw [wX] at h; exact (hc (of_decide_eq_true h)).elim
 by_cases hC : 240 ≤ n ∧ n < 245
 ·have hrc : kI n = (4, 65536, (n : Int) - 240) := by unfold kI; rw [if_neg (by omega), if_neg (by omega), if_pos (by omega)]
  rw [hrc]
  by_cases hl : s.length < i + 4
  ·rw [tail0 _ (Or.inr hl)]
   refine jL h0 ⟨fun h => by omega, fun h => by omega, fun _ _ _ h => ?_⟩
   rw [(in1 3).2 (by omega)] at h; cases h
  obtain ⟨c, h1⟩ := has 1 (by omega)
  obtain ⟨d, h2⟩ := has 2 (by omega)
  obtain ⟨e, h3⟩ := has 3 (by omega)
  rw [h1, h2, h3]
  by_cases hc : 128 ≤ c.toNat ∧ c.toNat < 192
  ·by_cases hd : 128 ≤ d.toNat ∧ d.toNat < 192
   ·by_cases he : 128 ≤ e.toNat ∧ e.toNat < 192
    ·rw [tails (4, 65536, (n : Int) - 240) _ (n % 8 * 262144 + c.toNat % 64 * 4096 + d.toNat % 64 * 64 + e.toNat % 64) (by simp; omega)
      (by rw [show (4 : Nat) - 1 = 2 + 1 from rfl, jI h1 hc, show (2 : Nat) = 1 + 1 from rfl, jI h2 hd, show (1 : Nat) = 0 + 1 from rfl, jI h3 he]; rfl) (by simp only []; omega)]
     exact decO_4 h0 (by omega) hc hd he rfl
    ·rw [tailn _ (by simp; omega) (by rw [show ((4 : Nat), (65536 : Int), (n : Int) - 240).1 - 1 = 2 + 1 from rfl, jI h1 hc, show (2 : Nat) = 1 + 1 from rfl, jI h2 hd, show (1 : Nat) = 0 + 1 from rfl, qBB h3 he])]
     refine jL h0 ⟨fun h => by omega, fun h => by omega, fun _ _ _ h => ?_⟩
     rw [wX] at h; exact (he (of_decide_eq_true h)).elim
   ·rw [tailn _ (by simp; omega) (by rw [show ((4 : Nat), (65536 : Int), (n : Int) - 240).1 - 1 = 2 + 1 from rfl, jI h1 hc, show (2 : Nat) = 1 + 1 from rfl, qBB h2 hd])]
    refine jL h0 ⟨fun h => by omega, fun h => by omega, fun _ _ h => ?_⟩
    rw [wX] at h; exact (hd (of_decide_eq_true h)).elim
  ·rw [tailn _ (by simp; omega) (by rw [show ((4 : Nat), (65536 : Int), (n : Int) - 240).1 - 1 = 2 + 1 from rfl, qBB h1 hc])]
   refine jL h0 ⟨fun h => by omega, fun h => by omega, fun _ h => ?_⟩
   rw [wX] at h; exact (hc (of_decide_eq_true h)).elim
 ·have hrc : kI n = (0, 0, 0) := by unfold kI; rw [if_neg (by omega), if_neg (by omega), if_neg (by omega)]
  rw [hrc, tail0 _ (.inl rfl)]
  refine jL h0 ⟨fun h _ => ?_, fun h => by omega, fun h _ _ _ => by omega⟩
  have : jB s[i + 1]? % 64 < 64 := Nat.mod_lt _ (by omega)
  omega
theorem qXC (s : List UInt8) (i : Nat) : wJ s i = wJ (s.drop i) 0 := by
 have h : ∀ k, (s.drop i)[k]? = s[i + k]? := fun k => by rw [List.getElem?_drop]
 have hl : ∀ (f : Nat) (j : Nat) (v : Int), xH s i f j v = xH (s.drop i) 0 f j v := by
  intro f
  induction f with
  | zero => intro j v; rfl
  | succ f ih =>
   intro j v
   simp only [xH, Nat.zero_add, h, ih]
 unfold wJ
 rw [h 0, Nat.add_zero]
 cases hb : s[i]? with
 | none => rfl
 | some b =>
  have hi := (List.getElem?_eq_some_iff.1 hb).1
  simp only [kO, hl, List.length_drop]
  have e : (s.length < i + (kI ↑b.toNat).1) ↔ (s.length - i < 0 + (kI ↑b.toNat).1) := by omega
  simp only [e]
def jA (v : Val) : List Val := (wF v.keys).map (qPM v)
theorem qOK {ks : List (List UInt8)} {s : List UInt8} : s ∈ wF ks ↔ s ∈ ks := (List.mergeSort_perm ks _).mem_iff
theorem values_ax (ks : List (List UInt8)) : AX Tryz.prog G 163 [.p (.sl 1 (ks.map PD.str))] [] (.func (.func 209) [] [.ptr 901 0]) [] [(901, .vars 27 [.p (.sl 1 (ks.map PD.str))])] := by
 refine AX.introU tok 900 Tryz.func163 (by kernel_rfl) rfl rfl ?_
 simp only [Tryz.f163, qK, List.map_cons, List.map_nil]
 refine rgn [] [[], [1]] ?_
 iterate 2 refine op1 tok ?_
 refine qA ?_
 refine rgn [] [[], [2]] ?_
 iterate 2 refine op1 tok ?_
 refine qA ?_
 exact AW.ret ⟨.inr rfl, _, _, by (conv => lhs; simp), trivial, by simp, by simp, by simp, by simp⟩
theorem qKQ (v : Val) (hl : v.keys.length ≤ v.kids.length) (hn : v.keys.length ≤ 1000000) : AFn Tryz.prog G 107 [v.enc] (.tup [.sl 1 ((wF v.keys).map PD.str), .sl 9 ((jA v).map Val.enc)]) := by
 refine AFn.introU tok Tryz.func107 (by kernel_rfl) rfl rfl ?_
 simp only [Tryz.f107, qK, List.map_cons, List.map_nil]
 have hsl := qOL v.keys
 have hix := idxK_ev (G := G) v.keys
 refine rgn [] [[], [], [1]] ?_
 iterate 3 refine op1 tok ?_
 refine qA ?_
 refine rgn [] [[], []] ?_
 iterate 2 refine op1 tok ?_
 refine qV ?_
 refine qE.stepK [1, 10] (wY rfl (values_ax v.keys) (by simp)) (by conv => lhs; simp) rfl ?_
 refine qE.stepK [1, 11] (wY rfl (sorted_ax 901 v.keys (by omega)) (by simp)) (by conv => lhs; simp) rfl ?_
 refine qE.run [[1, 4]] ?_
 refine op1 tok ?_
 refine qA ?_
 refine rgn [] [[]] ?_
 refine op1 tok ?_
 refine qA ?_
 refine AW.seq ?_
 refine rgn [] [[], [], []] ?_
 iterate 3 refine op1 tok ?_
 refine qA ?_
 refine AW.block ?_
 refine AW.beginE 5 5 31 9 (by simp) (by simp) (by conv => lhs; simp) ?_
 refine AW.loop (α := Nat) (fun k => k ≤ v.keys.length) (fun k => ⟨qW 32 [(1, .ptr 1 0), (4, .p (.sl 1 ((wF v.keys).map PD.str))), (5, .ms 5), (12, .p (.sl 1 ((wF v.keys).map PD.str))), (13, .p (.int .i64 v.keys.length)), (14, .p (.int .i64 k))], [], [(1, .vars 31 v.cells), (5, .row 31 9 (((jA v).take k).map Val.enc))], 0⟩) (fun k => v.keys.length - k) (0) (by omega) ⟨qB (by simp [hsl]), rfl, by simp, by simp⟩ ?_
 rintro k hk
 refine rgn [] [[]] ?_
 refine op1 tok ?_
 refine qA ?_
 refine AW.seq ?_
 refine cnd ?_ ?_
 ·intro h15
  try simp at h15
  obtain ⟨s, hs⟩ : ∃ s, (wF v.keys)[k]? = some s := ⟨(wF v.keys)[k]'(by omega), by simp [show k < (wF v.keys).length by omega]⟩
  have hm : s ∈ v.keys := qOK.1 (List.mem_of_getElem? hs)
  have hkid := qPL hl hm
  have hi := hix s
  unfold idxK at hi
  rw [if_pos hm] at hi
  refine AW.skip ?_
  refine AW.seq ?_
  refine AW.block ?_
  have hks : (jA v)[k]? = some (qPM v s) := by simp [jA, hs]
  generalize hkv : jA v = kv at *
  have hkl : (kv.take k).length ≤ k := List.length_take_le _ _
  refine rgn [.str s] [[], [], [1, 4, 5, 7, 12, 13, 14]] ?_
  iterate 3 refine op1 tok ?_ (hv := by first | with_reducible exact True.intro | (simp [hs]; done) | omega | simp | (simp +contextual; omega))
  refine qA ?_
  refine AW.runDrawK tok mixed [1, 4, 5, 12, 13, 14] 11 [[5], [1], [19], [1], [21], [7], [22, 23], [20, 24], [25], [26], [18, 27]] [.nilp, .int .i64 (v.keys.idxOf s), (qPM v s).enc, (qPM v s).enc] [] (by kernel_rfl) (by intro C; conv => lhs; simp) (by (simp [hkid]; exact ⟨hi, by omega⟩)) (by simp [Sm.sum, Sm.foot, Sm.tch, Sm.refs]; kernel_rfl) (by intro C; conv => lhs; simp) (by first | with_reducible exact True.intro | omega | simp | (simp +contextual; omega)) ?_
  refine AW.renE 28 5 (by simp) (by conv => lhs; simp) ?_
  refine rgz [] [[], [1, 4, 5, 12, 13, 14]] ?_
  iterate 2 refine op1 tok ?_
  refine qA ?_
  exact ⟨k + 1, by omega, by omega, qB (by simp [List.take_add_one, hks]), rfl, by simp [List.take_add_one, hks], by simp [List.take_add_one, hks]⟩
 ·intro h15
  try simp at h15
  have hkl : (jA v).length = v.keys.length := by simp [jA, hsl]
  refine AW.exit ?_
  simp
  refine AW.freezeE 5 (by conv => lhs; simp) ?_
  refine rgn [] [[], [], [], [2, 3]] ?_
  iterate 4 refine op1 tok ?_
  refine qA ?_
  exact AW.ret ⟨.inr rfl, _, _, by (conv => lhs; simp), trivial, by simp; rw [List.take_of_length_le (by simp; omega)]⟩
def xB : Nat → Val → Val → Int
 | 0, _, _ => 0
 | f + 1, a, b => if a.kind ≠ b.kind then qHF a.kind b.kind else if a.kind = 4 then qAA a.num b.num else if a.kind = 5 then Lib.compareBytes a.text b.text else if a.kind = 6 then yT (xB f) a.kids b.kids
  else if a.kind = 8 then qHF a.code b.code
  else if a.kind = 7 then (if yT vY (wF a.keys) (wF b.keys) ≠ 0 then yT vY (wF a.keys) (wF b.keys) else yT (xB f) (jA a) (jA b)) else 0
theorem qPK {v x : Val} (hl : v.keys.length ≤ v.kids.length) (h : x ∈ jA v) : x ∈ v.kids := by
 obtain ⟨s, hs, rfl⟩ := List.mem_map.1 h
 exact List.mem_of_getElem? (qPL hl (qOK.1 hs))
theorem qVW (f : Nat) (a b : Val) (ha : zL a = true) (hb : zL b = true) (ih : ∀ x ∈ a.kids, ∀ y ∈ b.kids, AFn Tryz.prog G 41 [x.enc, y.enc] (.int .i64 (xB f x y))) : AFn Tryz.prog G 41 [a.enc, b.enc] (.int .i64 (xB (f + 1) a b)) := by
 refine AFn.introU tok Tryz.func41 (by kernel_rfl) rfl rfl ?_
 simp only [Tryz.f41, qK, List.map_cons, List.map_nil]
 have hki := cmpI_ev (G := G) a.kind b.kind
 have hce := cmpE_ev (G := G) a.code b.code
 have hst := qYY (G := G) a.text b.text
 refine rgn [] [[], [], [2, 3]] ?_
 iterate 3 refine op1 tok ?_
 refine qA ?_
 refine AW.seq ?_
 refine rgn [] [[], [], [], [], [2, 3, 13]] ?_
 iterate 5 refine op1 tok ?_
 refine qA ?_
 refine cnd ?_ ?_
 ·intro h13
  try simp at h13
  have hR : xB (f + 1) a b = qHF a.kind b.kind := by simp only [xB]; rw [if_pos h13]
  refine rgn [.nilp, .int .i64 (qHF a.kind b.kind)] [[], [], [], [15, 17], [], [4]] ?_
  iterate 6 refine op1 tok ?_ (hv := by first | with_reducible exact True.intro | (exact hki; done) | omega | simp | (simp +contextual; omega))
  refine qA ?_
  exact AW.ret ⟨.inr rfl, _, _, by (conv => lhs; simp), trivial, by simp [hR]⟩
 ·intro h13
  try simp at h13
  have hkd : ¬ a.kind ≠ b.kind := by simpa using h13
  refine AW.skip ?_
  refine AW.seq ?_
  refine rgn [] [[], [2, 3, 20]] ?_
  iterate 2 refine op1 tok ?_
  refine qA ?_
  refine AW.block ?_
  refine rgn [] [[], [2, 3, 20, 21]] ?_
  iterate 2 refine op1 tok ?_
  refine qA ?_
  refine cnd ?_ ?_
  ·intro h21
   try simp at h21
   have hR : xB (f + 1) a b = qAA a.num b.num := by simp only [xB]; rw [if_neg hkd, if_pos h21]
   have hnum := cmpD_ev (G := G) a.num b.num (zN (kY ha h21)).1 (zN (kY hb (by omega))).1
   refine rgn [.nilp, .int .i64 (qAA a.num b.num)] [[], [], [], [24, 26], [], [4]] ?_
   iterate 6 refine op1 tok ?_ (hv := by first | with_reducible exact True.intro | ((simp at hnum ⊢; exact hnum); done) | omega | simp | (simp +contextual; omega))
   refine qA ?_
   exact AW.ret ⟨.inr rfl, _, _, by (conv => lhs; simp), trivial, by simp [hR]⟩
  ·intro h21
   try simp at h21
   refine rgn [] [[], [2, 3, 20, 28]] ?_
   iterate 2 refine op1 tok ?_
   refine qA ?_
   refine cnd ?_ ?_
   ·intro h28
    try simp at h28
    have hR : xB (f + 1) a b = Lib.compareBytes a.text b.text := by simp only [xB]; rw [if_neg hkd, if_neg h21, if_pos h28]
    refine rgn [.nilp, .int .i64 (Lib.compareBytes a.text b.text)] [[], [], [], [31, 33], [], [4]] ?_
    iterate 6 refine op1 tok ?_ (hv := by first | with_reducible exact True.intro | (exact hst; done) | omega | simp | (simp +contextual; omega))
    refine qA ?_
    exact AW.ret ⟨.inr rfl, _, _, by (conv => lhs; simp), trivial, by simp [hR]⟩
   ·intro h28
    try simp at h28
    refine rgn [] [[], [2, 3, 20, 35]] ?_
    iterate 2 refine op1 tok ?_
    refine qA ?_
    refine cnd ?_ ?_
    ·intro h35
     try simp at h35
     have hR : xB (f + 1) a b = yT (xB f) a.kids b.kids := by simp only [xB]; rw [if_neg hkd, if_neg h21, if_neg h28, if_pos h35]
     have hcl := qVX (G := G) a.kids b.kids 41 (xB f) ih
     refine rgn [.nilp, .int .i64 (yT (xB f) a.kids b.kids)] [[], [], [], [38, 40], [], [4]] ?_
     iterate 6 refine op1 tok ?_ (hv := by first | with_reducible exact True.intro | (exact hcl; done) | omega | simp | (simp +contextual; omega))
     refine qA ?_
     exact AW.ret ⟨.inr rfl, _, _, by (conv => lhs; simp), trivial, by simp [hR]⟩
    ·intro h35
     try simp at h35
     refine rgn [] [[], [2, 3, 20, 42]] ?_
     iterate 2 refine op1 tok ?_
     refine qA ?_
     refine cnd ?_ ?_
     ·intro h42
      try simp at h42
      have hR : xB (f + 1) a b = qHF a.code b.code := by simp only [xB]; rw [if_neg hkd, if_neg h21, if_neg h28, if_neg h35, if_pos h42]
      refine rgn [.nilp, .int .i64 (qHF a.code b.code)] [[], [], [], [45, 47], [], [4]] ?_
      iterate 6 refine op1 tok ?_ (hv := by first | with_reducible exact True.intro | (exact hce; done) | omega | simp | (simp +contextual; omega))
      refine qA ?_
      exact AW.ret ⟨.inr rfl, _, _, by (conv => lhs; simp), trivial, by simp [hR]⟩
     ·intro h42
      try simp at h42
      refine rgn [] [[], [2, 3, 49]] ?_
      iterate 2 refine op1 tok ?_
      refine qA ?_
      refine cnd ?_ ?_
      ·intro h49
       try simp at h49
       have hR : xB (f + 1) a b = (if yT vY (wF a.keys) (wF b.keys) ≠ 0 then yT vY (wF a.keys) (wF b.keys) else yT (xB f) (jA a) (jA b)) := by simp only [xB]; rw [if_neg hkd, if_neg h21, if_neg h28, if_neg h35, if_neg h42, if_pos h49]
       have hoa := qGV ha h49
       have hob := qGV hb (by omega)
       have hsa := qKQ (G := G) a (by omega) (by omega)
       have hsb := qKQ (G := G) b (by omega) (by omega)
       have hcs := cmpSL_ev (G := G) (wF a.keys) (wF b.keys)
       have hcl := qVX (G := G) (jA a) (jA b) 41 (xB f) fun x hx y hy => ih x (qPK (by omega) hx) y (qPK (by omega) hy)
       have hor := or2_ev (G := G) (yT vY (wF a.keys) (wF b.keys)) (yT (xB f) (jA a) (jA b))
       rw [← hR] at hor
       refine rgn [.nilp, .tup [.sl 1 ((wF a.keys).map PD.str), .sl 9 ((jA a).map Val.enc)]] [[], [], [], [], [3, 54, 55], [], [3, 5, 6]] ?_
       iterate 7 refine op1 tok ?_ (hv := by first | with_reducible exact True.intro | ((simp at hsa ⊢; exact hsa); done) | omega | simp | (simp +contextual; omega))
       refine qA ?_
       refine rgn [.nilp, .tup [.sl 1 ((wF b.keys).map PD.str), .sl 9 ((jA b).map Val.enc)]] [[], [], [], [], [5, 6, 59, 60], [], [5, 6, 7, 8]] ?_
       iterate 7 refine op1 tok ?_ (hv := by first | with_reducible exact True.intro | ((simp at hsb ⊢; exact hsb); done) | omega | simp | (simp +contextual; omega))
       refine qA ?_
       refine rgn [.nilp, .int .i64 (yT vY (wF a.keys) (wF b.keys)), .nilp, .int .i64 (yT (xB f) (jA a) (jA b)), .int .i64 (yT vY (wF a.keys) (wF b.keys)), .int .i64 (yT (xB f) (jA a) (jA b)), .nilp, .int .i64 (xB (f + 1) a b)] [[], [], [6, 8, 63], [], [], [63, 66], [], [], [4]] ?_
       iterate 9 refine op1 tok ?_ (hv := by first | with_reducible exact True.intro | (first | exact hcs | exact hcl | exact hor | simp; done) | omega | simp | (simp +contextual; omega))
       refine qA ?_
       exact AW.ret ⟨.inr rfl, _, _, by (conv => lhs; simp), trivial, by simp⟩
      ·intro h49
       try simp at h49
       have hR : xB (f + 1) a b = 0 := by simp only [xB]; rw [if_neg hkd, if_neg h21, if_neg h28, if_neg h35, if_neg h42, if_neg h49]
       refine AW.skip ?_
       refine rgn [] [[]] ?_
       refine op1 tok ?_
       refine qA ?_
       exact AW.ret ⟨.inr rfl, _, _, by (conv => lhs; simp), trivial, by simp [hR]⟩
theorem cmpF_ev : ∀ (f : Nat) (a b : Val), zL a = true → zL b = true → Val.sz a ≤ f → AFn Tryz.prog G 41 [a.enc, b.enc] (.int .i64 (xB (f + 1) a b))
 | 0, a, b, ha, hb, h => qVW 0 a b ha hb fun x hx => by have := Val.sz_kid hx; omega
 | f + 1, a, b, ha, hb, h => qVW (f + 1) a b ha hb fun x hx y hy => cmpF_ev f x y (vA ha hx) (vA hb hy) (by have := Val.sz_kid hx; omega)
def qAT (a b : Val) : Int := xB (Val.sz a + 1) a b
theorem cmpT_ev (a b : Val) (ha : zL a = true) (hb : zL b = true) : AFn Tryz.prog G 41 [a.enc, b.enc] (.int .i64 (qAT a b)) := cmpF_ev _ a b ha hb (Nat.le_refl _)
structure Ord {α : Type} (p : α → α → Int) (S : α → Prop) : Prop where
 anti : ∀ x y, S x → S y → p x y = - p y x
 tr : ∀ x y z, S x → S y → S z → p x y ≤ 0 → p y z ≤ 0 → p x z ≤ 0
theorem Ord.refl {α : Type} {p : α → α → Int} {S : α → Prop} (h : Ord p S) {x : α} (hx : S x) : p x x = 0 := by have := h.anti x x hx hx; omega
theorem Ord.lt_le {α : Type} {p : α → α → Int} {S : α → Prop} (h : Ord p S) {x y z : α} (hx : S x) (hy : S y) (hz : S z) (h1 : p x y < 0) (h2 : p y z ≤ 0) : p x z < 0 := by
 have h3 := h.tr x y z hx hy hz (by omega) h2
 by_cases h4 : p x z = 0
 ·have a1 := h.anti x z hx hz
  have a2 := h.anti x y hx hy
  have := h.tr y z x hy hz hx h2 (by omega)
  omega
 ·omega
theorem Ord.le_lt {α : Type} {p : α → α → Int} {S : α → Prop} (h : Ord p S) {x y z : α} (hx : S x) (hy : S y) (hz : S z) (h1 : p x y ≤ 0) (h2 : p y z < 0) : p x z < 0 := by
 have h3 := h.tr x y z hx hy hz h1 (by omega)
 by_cases h4 : p x z = 0
 ·have a1 := h.anti x z hx hz
  have a2 := h.anti y z hy hz
  have := h.tr z x y hz hx hy (by omega) h1
  omega
 ·omega
theorem Ord.eq_eq {α : Type} {p : α → α → Int} {S : α → Prop} (h : Ord p S) {x y z : α} (hx : S x) (hy : S y) (hz : S z) (h1 : p x y = 0) (h2 : p y z = 0) : p x z = 0 := by
 have a1 := h.anti x y hx hy
 have a2 := h.anti y z hy hz
 have a3 := h.anti x z hx hz
 have := h.tr x y z hx hy hz (by omega) (by omega)
 have := h.tr z y x hz hy hx (by omega) (by omega)
 omega
theorem Ord.then {α : Type} {p q : α → α → Int} {S : α → Prop} (hp : Ord p S) (hq : Ord q S) : Ord (fun x y => if p x y ≠ 0 then p x y else q x y) S := by
 refine ⟨fun x y hx hy => ?_, fun x y z hx hy hz h1 h2 => ?_⟩
 ·have a1 := hp.anti x y hx hy
  have a2 := hq.anti x y hx hy
  by_cases h : p x y = 0
  ·rw [if_neg (by omega), if_neg (by omega)]; exact a2
  ·rw [if_pos h, if_pos (by omega)]; exact a1
 ·by_cases e1 : p x y = 0
  ·rw [if_neg (by omega)] at h1
   by_cases e2 : p y z = 0
   ·rw [if_neg (by omega)] at h2
    rw [if_neg (by have := hp.eq_eq hx hy hz e1 e2; omega)]
    exact hq.tr x y z hx hy hz h1 h2
   ·rw [if_pos e2] at h2
    have := hp.le_lt hx hy hz (by omega) (show p y z < 0 by omega)
    rw [if_pos (by omega)]; omega
  ·rw [if_pos e1] at h1
   by_cases e2 : p y z = 0
   ·have := hp.lt_le hx hy hz (show p x y < 0 by omega) (by omega)
    rw [if_pos (by omega)]; omega
   ·rw [if_pos e2] at h2
    have := hp.lt_le hx hy hz (show p x y < 0 by omega) h2
    rw [if_pos (by omega)]; omega
theorem Ord.map {α β : Type} {p : β → β → Int} {S : β → Prop} (h : Ord p S) (f : α → β) {S' : α → Prop} (hS : ∀ x, S' x → S (f x)) : Ord (fun x y => p (f x) (f y)) S' :=
 ⟨fun x y hx hy => h.anti _ _ (hS x hx) (hS y hy), fun x y z hx hy hz => h.tr _ _ _ (hS x hx) (hS y hy) (hS z hz)⟩
@[simp] def prC (a b : Val) (top deep : Int) : List PD := [.int .i64 a.kind, .int .u64 a.mask, .bool a.num.neg, .str a.num.digits, .int .i64 a.num.scale, .str a.text, .sl 1 (a.keys.map PD.str), .sl 9 (a.kids.map Val.enc), .int .i64 a.code,
 .int .i64 b.kind, .int .u64 b.mask, .bool b.num.neg, .str b.num.digits, .int .i64 b.num.scale, .str b.text, .sl 1 (b.keys.map PD.str), .sl 9 (b.kids.map Val.enc), .int .i64 b.code, .int .u64 top, .int .u64 deep]
def wQ (code m : Int) : Val := .mk 8 m dc0 [] [] [] code
def uG (b : Bool) (m : Int) : Val := .mk (if b = true then 3 else 2) m dc0 [] [] [] 0
def yX (b : Val) : Nat → List (List UInt8) → List Val → List (List UInt8) × List Val
 | 0, ks, vs => (ks, vs)
 | k + 1, ks, vs => xR (yX b k ks vs).1 (yX b k ks vs).2 (b.keys.getD k []) (b.kids.getD k yJ)
def vO (a b : Val) (m : Int) : Val := .mk a.kind m a.num a.text (yX b b.keys.length a.keys a.kids).1 (yX b b.keys.length a.keys a.kids).2 a.code
def qPI (a b : Val) (m : Int) : Val := .mk a.kind m a.num a.text a.keys (a.kids.filter fun v => !(b.kids.any fun w => decide (qAT v w = 0))) a.code
def qTX (op : List UInt8) (c : Int) : Bool :=
 (decide (c = 0) && (decide (op = [61, 61]) || decide (op = [60, 61]) || decide (op = [62, 61]))) || ((!decide (c = 0)) && decide (op = [33, 61])) || (decide (c < 0) && (decide (op = [60]) || decide (op = [60, 61]))) || (decide (0 < c) && (decide (op = [62]) || decide (op = [62, 61])))
def isCmp (op : List UInt8) : Prop := op ≠ [43] ∧ op ≠ [45] ∧ op ≠ [42] ∧ op ≠ [47] ∧ op ≠ [37] ∧ op ≠ [97, 110, 100] ∧ op ≠ [111, 114]
theorem qXQ (b : Val) (k : Nat) {ks : List (List UInt8)} {vs : List Val} (h : ks.length = vs.length) : (yX b k ks vs).1.length = (yX b k ks vs).2.length ∧ (yX b k ks vs).2.length ≤ vs.length + k := by
 induction k with
 | zero => exact ⟨h, by simp [yX]⟩
 | succ k ih =>
  simp only [yX]
  unfold xR
  split
  ·simp; omega
  ·simp; omega
theorem qXZ (l : List Val) (g : FuncId) (cs : List PD) (p : Val → Bool) (hg : ∀ v ∈ l, AFn Tryz.prog G g [v.enc, .ref cs] (.bool (p v))) : AFn Tryz.prog G 143 [.sl 9 (l.map Val.enc), .clo g [.ref cs]] (.int .i64 (match l.findIdx? p with | some i => (i : Int) | none => -1)) := by
 refine AFn.introU tok Tryz.func143 (by kernel_rfl) rfl rfl ?_
 simp only [Tryz.f143, qK, List.map_cons, List.map_nil]
 refine rgn [] [[0, 1]] ?_
 refine op1 tok ?_
 refine qA ?_
 refine AW.seq ?_
 refine rgn [] [[], [], [0, 1, 7, 8]] ?_
 iterate 3 refine op1 tok ?_
 refine qA ?_
 refine AW.block ?_
 refine AW.intFactU (i := 7) rfl (by decide) ?_; intro hlen; simp at hlen
 refine AW.loop (α := Nat) (fun k => k ≤ l.length ∧ (l.take k).all (fun v => !p v) = true) (fun k => ⟨qW 19 [(0, .p (.sl 9 (l.map Val.enc))), (1, .p (.clo g [.ref cs])), (7, .p (.int .i64 l.length)), (8, .p (.int .i64 k))], [], [], 0⟩) (fun k => l.length - k) (0) ⟨by omega, rfl⟩ ⟨qB (by simp), rfl, by simp, by simp⟩ ?_
 rintro k ⟨hk, hall⟩
 refine rgn [] [[]] ?_
 refine op1 tok ?_
 refine qA ?_
 refine AW.seq ?_
 refine cnd ?_ ?_
 ·intro h9
  try simp at h9
  obtain ⟨v, hv⟩ : ∃ v, l[k]? = some v := ⟨l[k], by simp [h9]⟩
  have hgv := hg v (List.mem_of_getElem? hv)
  refine AW.skip ?_
  refine AW.seq ?_
  refine AW.block ?_
  refine rgn [] [[], [0, 1, 5, 7, 8]] ?_
  iterate 2 refine op1 tok ?_
  refine qA ?_
  refine rgn [v.enc, .nilp, .bool (p v)] [[], [], [], [], [], [0, 1, 5, 7, 8, 16]] ?_
  iterate 6 refine op1 tok ?_ (hv := by first | with_reducible exact True.intro | (first | (simp [hv]; done) | (simp at hgv ⊢; exact hgv); done) | omega | simp | (simp +contextual; omega))
  refine qA ?_
  refine cnd ?_ ?_
  ·intro h16
   try simp at h16
   have hf : l.findIdx? p = some k := by
    rw [List.findIdx?_eq_some_iff_getElem]
    have h9' := h9
    refine ⟨h9, ?_, fun j hj => ?_⟩
    ·rw [List.getElem?_eq_getElem h9] at hv; cases hv; exact h16
    ·have := List.all_eq_true.1 hall (l[j]'(by omega)) (List.mem_iff_getElem.2 ⟨j, by simp; omega, by simp⟩)
     simpa using this
   refine rgn [] [[], [4]] ?_
   iterate 2 refine op1 tok ?_
   refine qA ?_
   exact AW.ret ⟨.inr rfl, _, _, by (conv => lhs; simp), trivial, by simp [hf]⟩
  ·intro h16
   try simp at h16
   refine AW.skip ?_
   refine rgz [] [[], [0, 1, 7, 8]] ?_
   iterate 2 refine op1 tok ?_
   refine qA ?_
   exact ⟨k + 1, ⟨by omega, by rw [List.take_add_one, hv, List.all_append, hall]; simpa using h16⟩, by omega, qB (by simp), rfl, by simp, by simp⟩
 ·intro h9
  try simp at h9
  rw [List.take_of_length_le h9] at hall
  have hf : l.findIdx? p = none := by
   rw [List.findIdx?_eq_none_iff]; intro x hx; simpa using List.all_eq_true.1 hall x hx
  refine AW.exit ?_
  simp
  refine rgn [] [[]] ?_
  refine op1 tok ?_
  refine qA ?_
  exact AW.ret ⟨.inr rfl, _, _, by (conv => lhs; simp), trivial, by simp [hf]⟩
theorem qNP (l : List Val) (g : FuncId) (cs : List PD) (p : Val → Bool) (hg : ∀ v ∈ l, AFn Tryz.prog G g [v.enc, .ref cs] (.bool (p v))) : AFn Tryz.prog G 86 [.sl 9 (l.map Val.enc), .clo g [.ref cs]] (.bool (l.any p)) := by
 refine AFn.introU tok Tryz.func86 (by kernel_rfl) rfl rfl ?_
 simp only [Tryz.f86, qK, List.map_cons, List.map_nil]
 have hi := qXZ l g cs p hg
 have ha : l.any p = decide (0 ≤ (match l.findIdx? p with | some i => (i : Int) | none => -1)) := by
  cases h : l.findIdx? p with
  | none => simp; intro x hx; simpa using List.findIdx?_eq_none_iff.1 h x hx
  | some i =>
   obtain ⟨h1, h2, _⟩ := List.findIdx?_eq_some_iff_getElem.1 h
   simp; exact ⟨_, List.getElem_mem h1, h2⟩
 rw [ha]
 generalize (match l.findIdx? p with | some i => (i : Int) | none => -1) = n at *
 refine rgn [] [[0, 1]] ?_
 refine op1 tok ?_
 refine qA ?_
 refine rgn [.nilp, .int .i64 n] [[], [], [7], [], [4]] ?_
 iterate 5 refine op1 tok ?_ (hv := by first | with_reducible exact True.intro | (first | exact hi | simp; done) | omega | simp | (simp +contextual; omega))
 refine qA ?_
 exact AW.ret ⟨.inr rfl, _, _, by (conv => lhs; simp), trivial, by simp⟩
def qFB (p : Val → Bool) (l : List Val) : Int := match l.findIdx? p with
 | none => -1
 | some i => i
theorem idxI_atV {p : Val → Bool} {l : List Val} {k : Nat} {s : Val} (hs : l[k]? = some s) (hall : ((l.take k).all fun s => !p s) = true) (hp : p s = true) : qFB p l = k := by
 have h : l.findIdx? p = some k := by
  rw [List.findIdx?_eq_some_iff_getElem]
  obtain ⟨hk, rfl⟩ := List.getElem?_eq_some_iff.1 hs
  refine ⟨hk, hp, fun j hj => ?_⟩
  have := List.all_eq_true.1 hall l[j] (List.mem_of_getElem? (i := j) (by rw [List.getElem?_take, if_pos hj]; simp [show j < l.length by omega]))
  simpa using this
 unfold qFB; rw [h]
theorem idxI_noV {p : Val → Bool} {l : List Val} (hall : (l.all fun s => !p s) = true) : qFB p l = -1 := by
 have h : l.findIdx? p = none := by
  rw [List.findIdx?_eq_none_iff]
  intro x hx
  have := List.all_eq_true.1 hall x hx
  simpa using this
 unfold qFB; rw [h]
theorem qYA {p : Val → Bool} {l : List Val} (h : qFB p l ≠ -1) : ∃ (k : Nat) (s : Val), qFB p l = k ∧ l[k]? = some s ∧ ((l.take k).all fun s => !p s) = true ∧ p s = true := by
 unfold qFB at h ⊢
 cases e : l.findIdx? p with
 | none => rw [e] at h; exact absurd rfl h
 | some k =>
  rw [List.findIdx?_eq_some_iff_getElem] at e
  obtain ⟨hk, hp, hn⟩ := e
  refine ⟨k, l[k], rfl, by simp [hk], List.all_eq_true.2 fun x hx => ?_, hp⟩
  obtain ⟨j, hj⟩ := List.mem_iff_getElem?.1 hx
  rw [List.getElem?_take] at hj
  split at hj
  ·rename_i hjk
   obtain ⟨_, rfl⟩ := List.getElem?_eq_some_iff.1 hj
   simpa using hn j hjk
  ·cases hj
theorem qYB {p : Val → Bool} {l : List Val} (h : qFB p l = -1) : (l.all fun s => !p s) = true := by
 unfold qFB at h
 cases e : l.findIdx? p with
 | none =>
  rw [List.findIdx?_eq_none_iff] at e
  exact List.all_eq_true.2 fun x hx => by simpa using e x hx
 | some k => rw [e] at h; simp only at h; omega
theorem idxVo_ax (g : FuncId) (cs : List PD) (p : Val → Bool) (l : List Val) (hg : ∀ s ∈ l, AFn Tryz.prog G g [s.enc, .ref cs] (.bool (p s))) (hl : l.length ≤ 1000000000) : AX Tryz.prog G 143 [.ms 930, .func (.func g) [] [.cptr cs]] [(930, .row 31 9 (l.map Val.enc))] (.p (.int .i64 (qFB p l))) [930] [(930, .row 31 9 (l.map Val.enc))] := by
 refine AX.introU tok 300 Tryz.func143 (by kernel_rfl) rfl rfl ?_
 simp only [Tryz.f143, qK, List.map_cons, List.map_nil]
 refine rgn [] [[0, 1]] ?_
 refine op1 tok ?_
 refine qA ?_
 refine AW.seq ?_
 refine rgn [] [[], [], [0, 1, 7, 8]] ?_
 iterate 3 refine op1 tok ?_
 refine qA ?_
 refine AW.block ?_
 refine AW.loop (α := Nat) (fun k => k ≤ l.length ∧ ((l.take k).all fun s => !p s) = true) (fun k => ⟨qW 19 [(0, .ms 930), (1, .func (.func g) [] [.cptr cs]), (7, .p (.int .i64 l.length)), (8, .p (.int .i64 k))], [930], [(930, .row 31 9 (l.map Val.enc))], 300⟩) (fun k => l.length - k) (0) ⟨by omega, rfl⟩ ⟨qB (by simp), rfl, by simp, by simp⟩ ?_
 rintro k ⟨hk, hall⟩
 refine rgn [] [[]] ?_
 refine op1 tok ?_
 refine qA ?_
 refine AW.seq ?_
 refine cnd ?_ ?_
 ·intro h9
  try simp at h9
  obtain ⟨s, hs⟩ : ∃ s, l[k]? = some s := ⟨l[k], by simp [h9]⟩
  have hgs := hg s (List.mem_of_getElem? hs)
  simp only [Val.enc_def] at hgs
  refine AW.skip ?_
  refine AW.seq ?_
  refine AW.block ?_
  refine rgn [] [[], [0, 1, 5, 7, 8]] ?_
  iterate 2 refine op1 tok ?_
  refine qA ?_
  refine rgn [s.enc, .nilp, .bool (p s)] [[], [], [], [], [], [0, 1, 5, 7, 8, 16]] ?_
  iterate 6 refine op1 tok ?_ (hv := by first | with_reducible exact True.intro | (first | exact hgs | (simp [hs]; done) | (simp [hs]; omega); done) | omega | simp | (simp +contextual; omega))
  refine qA ?_
  refine cnd ?_ ?_
  ·intro h16
   try simp at h16
   have hi := idxI_atV hs hall h16
   refine rgn [] [[], [4]] ?_
   iterate 2 refine op1 tok ?_
   refine qA ?_
   exact AW.ret ⟨.inr rfl, _, _, by (conv => lhs; simp), trivial, by simp [hi], by simp, by simp, by simp⟩
  ·intro h16
   try simp at h16
   refine AW.skip ?_
   refine rgz [] [[], [0, 1, 7, 8]] ?_
   iterate 2 refine op1 tok ?_
   refine qA ?_
   exact ⟨k + 1, ⟨by omega, by rw [List.take_add_one, hs, List.all_append, hall]; simp [h16]⟩, by omega, qB (by simp), rfl, by simp, by simp⟩
 ·intro h9
  try simp at h9
  rw [List.take_of_length_le h9] at hall
  have hi := idxI_noV hall
  refine AW.exit ?_
  simp
  refine rgn [] [[]] ?_
  refine op1 tok ?_
  refine qA ?_
  exact AW.ret ⟨.inr rfl, _, _, by (conv => lhs; simp), trivial, by simp [hi], by simp, by simp, by simp⟩
def vE (F J C : List Val) : List PD := F.map Val.enc ++ (J.map Val.enc ++ C.map Val.enc)
@[simp] theorem rowD_lenV (F J C : List Val) : (vE F J C).length = F.length + (J.length + C.length) := by simp [vE]
theorem rowD_getV {F J C : List Val} {j : Nat} {v : Val} (h : F.length + J.length = j) : (vE F J (v :: C))[j]? = some v.enc := by
 unfold vE
 rw [List.getElem?_append_right (by simp; omega), List.getElem?_append_right (by simp; omega)]
 simp only [List.length_map]
 rw [show j - F.length - J.length = 0 by omega]; simp
theorem qXE {F J C : List Val} {x : Val} : (vE F (x :: J) C)[F.length]? = some x.enc := by
 unfold vE
 rw [List.getElem?_append_right (by simp)]; simp
theorem rowD_setV {F J C : List Val} {x v : Val} : (vE F (x :: J) (v :: C)).set F.length v.enc = vE (F ++ [v]) (J ++ [v]) C := by
 unfold vE
 rw [List.set_append_right _ _ (by simp)]; simp
theorem qFI {F J C : List Val} {v : Val} : vE F J (v :: C) = vE F (J ++ [v]) C := by simp [vE]
theorem rowD_cutV (F J C : List Val) (r : List PD) : ((vE F J C).take F.length ++ r).take F.length = F.map Val.enc := by
 unfold vE
 rw [List.take_append_of_le_length (by simp), List.take_of_length_le (by simp), List.take_append_of_le_length (by simp), List.take_of_length_le (by simp)]
theorem delV_ax (g : FuncId) (cs : List PD) (p : Val → Bool) (l : List Val) (hg : ∀ s ∈ l, AFn Tryz.prog G g [s.enc, .ref cs] (.bool (p s))) (hl : l.length ≤ 1000000000) : AX Tryz.prog G 84 [.ms 930, .func (.func g) [] [.cptr cs]] [(930, .row 31 9 (l.map Val.enc))] (.ms 930) [] [(930, .row 31 9 ((l.filter fun s => !p s).map Val.enc))] := by
 refine AX.introU tok 400 Tryz.func84 (by kernel_rfl) rfl rfl ?_
 simp only [Tryz.f84, qK, List.map_cons, List.map_nil]
 refine rgn [] [[0, 1]] ?_
 refine op1 tok ?_
 refine qA ?_
 refine rgn [] [[], []] ?_
 iterate 2 refine op1 tok ?_
 refine qV ?_
 refine qE.stepK [0, 1, 10] (wY rfl (idxVo_ax g cs p l hg hl) (by simp)) (by conv => lhs; simp) rfl ?_
 refine qE.run [[0, 1, 5]] ?_
 refine op1 tok ?_
 refine qA ?_
 refine AW.seq ?_
 refine rgn [] [[], [0, 1, 5, 12]] ?_
 iterate 2 refine op1 tok ?_
 refine qA ?_
 refine cnd ?_ ?_
 ·intro h12
  try simp at h12
  have hall := qYB h12
  have hf : (l.filter fun s => !p s) = l := List.filter_eq_self.2 fun x hx => List.all_eq_true.1 hall x hx
  rw [hf]
  refine rgn [] [[], [4]] ?_
  iterate 2 refine op1 tok ?_
  refine qA ?_
  exact AW.ret ⟨.inr rfl, _, _, by (conv => lhs; simp), trivial, by simp, by simp, by simp, by simp⟩
 ·intro h12
  try simp at h12
  obtain ⟨i0, s0, hi0, hs0, hall0, hp0⟩ := qYA h12
  rw [hi0]
  have hi0l := (List.getElem?_eq_some_iff.1 hs0).1
  have hf0 : ((l.take (i0 + 1)).filter fun s => !p s) = l.take i0 := by
   rw [List.take_add_one, hs0, List.filter_append, List.filter_eq_self.2 fun x hx => List.all_eq_true.1 hall0 x hx]
   simp [hp0]
  have hrow0 : l.map Val.enc = vE ((l.take (i0 + 1)).filter fun s => !p s) [s0] (l.drop (i0 + 1)) := by
   have e : l = l.take i0 ++ s0 :: l.drop (i0 + 1) := by
    obtain ⟨h, rfl⟩ := List.getElem?_eq_some_iff.1 hs0
    rw [← List.drop_eq_getElem_cons h, List.take_append_drop]
   rw [hf0]
   conv => lhs; rw [e]
   simp [vE]
  have hfl0 : ((l.take (i0 + 1)).filter fun s => !p s).length = i0 := by rw [hf0]; simp; omega
  refine AW.skip ?_
  refine AW.seq ?_
  refine rgn [] [[], [], [0, 1, 5, 6]] ?_
  iterate 3 refine op1 tok ?_
  refine qA ?_
  refine AW.block ?_
  refine AW.loop (α := Nat × List Val) (fun a => a.1 ≤ l.length ∧ ((l.take a.1).filter fun s => !p s).length + a.2.length = a.1 ∧ 1 ≤ a.2.length) (fun a => ⟨qW 42 [(0, .ms 930), (1, .func (.func g) [] [.cptr cs]), (5, .p (.int .i64 ((l.take a.1).filter fun s => !p s).length)), (6, .p (.int .i64 a.1))], [930], [(930, .row 31 9 (vE ((l.take a.1).filter fun s => !p s) a.2 (l.drop a.1)))], 400⟩) (fun a => l.length - a.1) ((i0 + 1, [s0])) ⟨by simp only []; omega, by simp only [hfl0]; simp, by simp⟩ ⟨qB (by simp [hfl0]), rfl, by simp [← hrow0], by simp⟩ ?_
  rintro ⟨j, J⟩ ⟨hj, hlen, hJ⟩
  simp only at hj hlen hJ
  have hdl : (l.drop j).length = l.length - j := by simp
  generalize hF : ((l.take j).filter fun s => !p s) = F at *
  generalize hD : l.drop j = D at *
  refine AW.seq ?_
  refine rgn [] [[], [], [], [0, 1, 5, 6, 19]] ?_
  iterate 4 refine op1 tok ?_
  refine qA ?_
  refine cnd ?_ ?_
  ·intro h19
   try simp at h19
   obtain ⟨v, C, rfl⟩ : ∃ v C, D = v :: C := by
    cases D with
    | nil => simp only [List.length_nil] at hdl h19; omega
    | cons v C => exact ⟨v, C, rfl⟩
   obtain ⟨x, J, rfl⟩ : ∃ x J', J = x :: J' := by
    cases J with
    | nil => simp at hJ
    | cons x J => exact ⟨x, J, rfl⟩
   have hv : l[j]? = some v := by
    have := congrArg List.head? hD
    rwa [List.head?_drop] at this
   have hC : l.drop (j + 1) = C := by
    rw [← List.drop_drop, hD]; rfl
   have hgv := hg v (List.mem_of_getElem? hv)
   have hget := rowD_getV (C := C) (v := v) hlen
   have hset := rowD_setV (F := F) (J := J) (C := C) (x := x) (v := v)
   have hget0 := qXE (F := F) (J := J) (C := v :: C) (x := x)
   have hF1 : ((l.take (j + 1)).filter fun s => !p s) = F ++ (if p v = true then [] else [v]) := by
    rw [List.take_add_one, hv, List.filter_append, hF]
    by_cases hp : p v = true <;> simp [hp]
   simp only [List.length_cons] at hdl hlen hJ
   simp only [Val.enc_def] at hgv hget hset hget0
   refine AW.skip ?_
   refine AW.seq ?_
   refine AW.block ?_
   refine rgn [v.enc] [[], [], [], [], [], [0, 1, 5, 6, 7]] ?_
   iterate 6 refine op1 tok ?_ (hv := by first | with_reducible exact True.intro | (first | exact ⟨_, hget, rfl⟩ | (simp [hget]; done) | (simp; omega); done) | omega | simp | (simp +contextual; omega))
   refine qA ?_
   refine rgn [.nilp, .bool (p v)] [[], [], [], [0, 1, 5, 6, 7, 29]] ?_
   iterate 4 refine op1 tok ?_ (hv := by first | with_reducible exact True.intro | (exact hgv; done) | omega | simp | (simp +contextual; omega))
   refine qA ?_
   refine cnd ?_ ?_
   ·intro h29
    try simp at h29
    refine rgn [x.enc, v.enc] [[], [], [], [], [0, 1, 5, 6]] ?_
    iterate 5 refine op1 tok ?_ (hv := by first | with_reducible exact True.intro | (first | (simp [hget0]; done) | (simp [hget0]; omega); done) | omega | simp | (simp +contextual; omega))
    refine qA ?_
    refine rgz [] [[], [], [0, 1, 5, 6]] ?_
    iterate 3 refine op1 tok ?_
    refine qA ?_
    refine rgz [] [[], [], [0, 1, 5, 6]] ?_
    iterate 3 refine op1 tok ?_
    refine qA ?_
    exact ⟨(j + 1, J ++ [v]), ⟨by simp only []; omega, by simp [hF1, h29]; omega, by simp⟩, by simp only []; omega, qB (by simp [hF1, h29, hC, hset]), rfl, by simp [hF1, h29, hC, hset], by simp [hF1, h29, hC, hset]⟩
   ·intro h29
    try simp at h29
    refine AW.skip ?_
    refine rgz [] [[], [], [0, 1, 5, 6]] ?_
    iterate 3 refine op1 tok ?_
    refine qA ?_
    exact ⟨(j + 1, (x :: J) ++ [v]), ⟨by simp only []; omega, by simp [hF1, h29]; omega, by simp⟩, by simp only []; omega, qB (by simp [hF1, h29, hC, qFI]), rfl, by simp [hF1, h29, hC, qFI], by simp [hF1, h29, hC, qFI]⟩
  ·intro h19
   try simp at h19
   have hjl : j = l.length := by omega
   subst hjl
   rw [List.take_length] at hF
   rw [hF]
   have hcut := rowD_cutV F J D
   refine AW.exit ?_
   simp
   refine rgn [] [[], []] ?_
   iterate 2 refine op1 tok ?_
   refine qV ?_
   refine qE.clearFrom tok [0, 5, 38] (e0 := yJ.enc) F.length rfl rfl rfl rfl rfl rfl rfl rfl rfl rfl (by simp) (by conv => lhs; simp) trivial (by conv => lhs; simp) trivial (by conv => lhs; simp) rfl (by first | (simp; done) | (simp; omega)) (by omega) (by simp) ?_
   simp only [St.put, upds_set, qXY, St.keep, upds_mask, qJI, zR]
   refine qE.nil ?_
   refine rgn [] [[], []] ?_
   iterate 2 refine op1 tok ?_
   refine qV ?_
   refine qE.stepK [41] (qSY tok rfl rfl F.length (by conv => lhs; simp) trivial (by conv => lhs; simp) trivial rfl (by conv => lhs; simp) (by first | (simp; done) | (simp; omega)) (by omega)) (by conv => lhs; simp [hcut]) rfl ?_
   refine qE.run [[4]] ?_
   refine op1 tok ?_
   refine qA ?_
   exact AW.ret ⟨.inr rfl, _, _, by (conv => lhs; simp), trivial, by simp, by simp, by simp, by simp⟩
structure Item where
 kind : Int
 many : Int
 mask : Int
 num : List UInt8
 text : List UInt8
 keys : List (List UInt8)
@[simp] def Item.enc (x : Item) : PD := .agg [.int .i64 x.kind, .int .i64 x.many, .int .u64 x.mask, .str x.num, .str x.text, .sl 1 (x.keys.map PD.str)]
theorem qFN {v : Val} (h1 : 1 ≤ v.kind ∧ v.kind ≤ 8 ∧ v.kids.length ≤ 200) (h2 : v.kind = 8 ↔ v.code ≠ 0) (h3 : v.kind = 4 → zC v.num = true) (h3' : v.kind ≠ 4 → v.num = dc0)
  (h4 : v.kind = 5 → qCS v.text = true) (h4' : v.kind ≠ 5 → v.text = []) (h5 : v.kind = 7 → v.keys.length = v.kids.length ∧ qEZ v.keys = true) (h5' : v.kind ≠ 7 → v.keys = []) (h6 : v.kids = [] ∨ v.kind = 6 ∨ v.kind = 7)
  (h7 : ∀ k ∈ v.kids, zL k = true) : zL v = true := by
 rw [qAI]
 simp only [Bool.and_eq_true, qBX]
 refine ⟨⟨by simp [qCO]; omega, ⟨⟨⟨⟨?_, ?_⟩, ?_⟩, ?_⟩, ?_⟩⟩, List.all_eq_true.2 h7⟩
 ·unfold codeT
  by_cases h : v.kind = 8
  ·simp [h, h2.1 h]
  ·have : v.code = 0 := by by_cases hc : v.code = 0; · exact hc
                           ·exact (h (h2.2 hc)).elim
   simp [h, this]
 ·unfold numT
  by_cases h : v.kind = 4
  ·rw [if_pos h]; exact h3 h
  ·rw [if_neg h, h3' h]; simp [dc0]
 ·unfold qTK
  by_cases h : v.kind = 5
  ·rw [if_pos h]; exact h4 h
  ·rw [if_neg h, h4' h]; simp
 ·unfold qIA
  by_cases h : v.kind = 7
  ·rw [if_pos h, (h5 h).1, (h5 h).2]; simp
  ·rw [if_neg h, h5' h]; simp
 ·unfold kidsT
  rcases h6 with h | h | h <;> simp [h]
theorem qWW {s : List UInt8} (h : s.all qG = true) : (qL s).all qG = true := by
 rw [List.all_eq_true] at h ⊢
 exact fun b hb => h b ((List.dropWhile_sublist _).subset hb)
theorem qTT {s : List UInt8} (h : qL s ≠ []) : qM (qL s) 0 ≠ 48 := by
 induction s with
 | nil => exact (h rfl).elim
 | cons b s ih =>
  by_cases hb : b = 48
  ·have e : qL (b :: s) = qL s := by simp [qL, hb]
   rw [e] at h ⊢; exact ih h
  ·have e : qL (b :: s) = b :: s := by simp [qL, hb]
   rw [e]
   intro h2
   simp [qM] at h2
   exact hb (UInt8.toNat_inj.1 (by show b.toNat = 48; omega))
theorem qKJ : ∀ (k : Nat) (d : List UInt8), (∃ r, d = (wB d k).1 ++ r) ∧ ((wB d k).2 = 0 ∨ (wB d k).1.getLast? ≠ some 48)
 | 0, d => ⟨⟨[], by simp [wB]⟩, .inl rfl⟩
 | k + 1, d => by
  simp only [wB]
  split
  ·obtain ⟨⟨r, hr⟩, h2⟩ := qKJ k d.dropLast
   refine ⟨⟨r ++ d.drop (d.length - 1), ?_⟩, h2⟩
   have e : d.dropLast ++ d.drop (d.length - 1) = d := by rw [List.dropLast_eq_take, List.take_append_drop]
   rw [← List.append_assoc, ← hr, e]
  ·rename_i h; exact ⟨⟨[], by simp⟩, .inr h⟩
theorem NormM_may {neg : Bool} {digits : List UInt8} {scale : Nat} (hd : digits.all qG = true) (h : (wD neg digits scale).2 = 0) : zC (wD neg digits scale).1 = true := by
 unfold wD at h ⊢
 simp only at h ⊢
 obtain ⟨⟨r, hr⟩, hl⟩ := qKJ scale (qL digits)
 generalize wB (qL digits) scale = x at *
 split
 ·decide +kernel
 ·rename_i hne
  rw [if_neg hne] at h
  split
  ·rename_i hb; rw [if_pos hb] at h; simp at h
  ·rename_i hb
   have hpos : 0 < x.1.length := List.length_pos_iff.2 hne
   have hall : x.1.all qG = true := by
    have := qWW hd
    rw [hr, List.all_append, Bool.and_eq_true] at this; exact this.1
   have hh : qM x.1 0 ≠ 48 := by
    have h1 := qTT (s := digits) (by rw [hr]; simp [hne])
    rw [hr] at h1
    obtain ⟨c, d, hx⟩ : ∃ c d, x.1 = c :: d := by
     cases hx : x.1 with
     | nil => exact (hne hx).elim
     | cons c d => exact ⟨c, d, rfl⟩
    rw [hx] at h1 ⊢
    simpa [qM] using h1
   rw [qPZ (by simp only []; omega) hall]
   simp only
   rw [if_neg (by intro e; rw [e] at hh; exact hh rfl)]
   have hlast : x.2 = 0 ∨ qM x.1 (x.1.length - 1) ≠ 48 := hl.imp id fun h h2 => h ((qAK hpos).1 h2)
   simp [hh]
   exact hlast
theorem cloneR_ax (a b c d e f g : V) (ks kids : List PD) : AX Tryz.prog G 135 [.ptr 902 0] [(902, .vars 31 [a, b, c, d, e, f, .ms 909, .ms 912, g]), (909, .row 9 1 ks), (912, .row 31 9 kids)] (.tuple []) [902, 909, 912] [(902, .vars 31 [a, b, c, d, e, f, .ms 909, .ms 912, g]), (909, .row 9 1 ks), (912, .row 31 9 kids)] := by
 refine AX.introU tok 800 Tryz.func135 (by kernel_rfl) rfl rfl ?_
 simp only [Tryz.f135, qK, List.map_cons, List.map_nil]
 refine AW.skip ?_
 exact ⟨.inl rfl, _, _, by (conv => lhs; simp), trivial, by simp, by simp, by simp, by simp⟩
theorem qXT (v : Val) (hv : zL v = true) : AX Tryz.prog G 134 [.p v.enc, .p (.fn 135)] [] (.agg [.p (.int .i64 v.kind), .p (.int .u64 v.mask), .p (.bool v.num.neg), .p (.str v.num.digits), .p (.int .i64 v.num.scale), .p (.str v.text), .ms 909, .ms 912, .p (.int .i64 v.code)]) [] [(909, .row 9 1 (v.keys.map PD.str)), (912, .row 31 9 (v.kids.map Val.enc))] := by
 refine AX.introU tok 900 Tryz.func134 (by kernel_rfl) rfl rfl ?_
 simp only [Tryz.f134, qK, List.map_cons, List.map_nil]
 have hsm := xY hv
 have hck := qQF (G := G) v.keys (by omega)
 have hcv := qQD (G := G) v.kids (by omega)
 have ih : ∀ k ∈ v.kids, AFn Tryz.prog G 134 [k.enc, .fn 135] (uM id k).enc := fun k hk => mapped_ev (G := G) 135 id qQH k (vA hv hk)
 refine rgn [] [[], [1, 2, 4]] ?_
 iterate 2 refine op1 tok ?_
 refine qA ?_
 refine AW.seqRunDrawK tok mixed [1, 2, 4] 8 [[2], [7], [8], [2], [10], [11], [2], [13, 9]] [.nilf, .sl 1 (v.keys.map PD.str), .clo 9 [], .nilf, .sl 9 (v.kids.map Val.enc), .clo 31 []] [] (by kernel_rfl) (by intro C; conv => lhs; simp) (by first | exact hck | exact hcv | ((repeat' (first | with_reducible apply And.intro | intro _)) <;> first | exact (hck) | exact (hcv) | assumption | omega | contradiction | simp_all)) (by simp [Sm.sum, Sm.foot, Sm.tch, Sm.refs]; kernel_rfl) (by intro C; conv => lhs; simp) (by first | with_reducible exact True.intro | omega | simp | (simp +contextual; omega)) ?_
 refine AW.seq ?_
 refine rgn [] [[], [], [], [1, 2, 4, 16, 17, 18]] ?_
 iterate 4 refine op1 tok ?_
 refine qA ?_
 refine AW.block ?_
 refine AW.loop (α := Nat) (fun k => k ≤ v.kids.length) (fun k => ⟨qW 34 [(1, .p (.fn 135)), (2, .ptr 902 0), (4, .ptr 904 0), (16, .ms 912), (17, .p (.int .i64 v.kids.length)), (18, .p (.int .i64 k))], [], [(902, .vars 31 [.p (.int .i64 v.kind), .p (.int .u64 v.mask), .p (.bool v.num.neg), .p (.str v.num.digits), .p (.int .i64 v.num.scale), .p (.str v.text), .ms 909, .ms 912, .p (.int .i64 v.code)]), (904, .vars 31 zeroN), (909, .row 9 1 (v.keys.map PD.str)), (912, .row 31 9 (jC id v k))], 900⟩) (fun k => v.kids.length - k) (0) (by simp) ⟨qB (by simp), rfl, by simp, by simp⟩ ?_
 rintro k hk
 refine rgn [] [[]] ?_
 refine op1 tok ?_
 refine qA ?_
 refine AW.seq ?_
 refine cnd ?_ ?_
 ·intro h19
  try simp at h19
  obtain ⟨x, hx⟩ : ∃ x, v.kids[k]? = some x := ⟨v.kids[k], by simp [h19]⟩
  have hix := ih x (List.mem_of_getElem? hx)
  have hx' := qMA (ch := id) hx
  have hkl := qLZ id v k
  have hset := qLY (ch := id) hx
  rw [qRO] at hix hset
  simp only [Val.enc_def] at hx' hix hset
  refine AW.skip ?_
  refine AW.seq ?_
  refine AW.block ?_
  refine rgn [x.enc] [[], [], [], [], [], [1, 2, 4, 5, 6, 16, 17, 18]] ?_
  iterate 6 refine op1 tok ?_ (hv := by first | with_reducible exact True.intro | (simpa using hx'; done) | omega | simp | (simp +contextual; omega))
  refine qA ?_
  refine AW.runDrawK tok mixed [1, 2, 4, 16, 17, 18] 6 [[2], [23], [5], [6], [1], [26, 27]] [.nilp, x.enc] [x.enc, x.enc] (by kernel_rfl) (by intro C; conv => lhs; simp) (by first | exact hix | ((repeat' (first | with_reducible apply And.intro | intro _)) <;> first | exact (hix) | exact (hx') | assumption | omega | contradiction | simp_all)) (by simp [Sm.sum, Sm.foot, Sm.tch, Sm.refs]; kernel_rfl) (by intro C; conv => lhs; simp) (by exact ⟨by omega, hx'⟩) ?_
  refine rgz [] [[], [1, 2, 4, 16, 17, 18]] ?_
  iterate 2 refine op1 tok ?_
  refine qA ?_
  exact ⟨k + 1, (by omega), (by omega), qB (by simp [hset]), rfl, by simp [hset], by simp [hset]⟩
 ·intro h19
  try simp at h19
  obtain rfl : k = v.kids.length := by omega
  have hfull : jC id v v.kids.length = v.kids.map Val.enc := by simp only [jC, List.take_length, List.drop_length, List.map_nil, List.append_nil, qRO]
  rw [hfull]
  refine AW.exit ?_
  simp
  refine rgn [] [[]] ?_
  refine op1 tok ?_
  refine qV ?_
  refine qE.stepK [2, 4] (wY rfl (cloneR_ax (.p (.int .i64 v.kind)) (.p (.int .u64 v.mask)) (.p (.bool v.num.neg)) (.p (.str v.num.digits)) (.p (.int .i64 v.num.scale)) (.p (.str v.text)) (.p (.int .i64 v.code)) (v.keys.map PD.str) (v.kids.map Val.enc)) (by simp)) (by conv => lhs; simp) rfl ?_
  refine qE.nil ?_
  refine rgn [] [[], [4]] ?_
  iterate 2 refine op1 tok ?_
  refine qA ?_
  exact AW.ret ⟨.inr rfl, _, _, by (conv => lhs; simp), trivial, by simp, by simp, by simp, by simp⟩
theorem qQE (v : Val) (hv : zL v = true) : AX Tryz.prog G 78 [.p v.enc] [] (.agg [.p (.int .i64 v.kind), .p (.int .u64 v.mask), .p (.bool v.num.neg), .p (.str v.num.digits), .p (.int .i64 v.num.scale), .p (.str v.text), .ms 909, .ms 912, .p (.int .i64 v.code)]) [] [(909, .row 9 1 (v.keys.map PD.str)), (912, .row 31 9 (v.kids.map Val.enc))] := by
 refine AX.introU tok 1900 Tryz.func78 (by kernel_rfl) rfl rfl ?_
 simp only [Tryz.f78, qK, List.map_cons, List.map_nil]
 have hm := qXT (G := G) v hv
 simp only [Val.enc_def] at hm
 refine rgn [] [[], [1, 2]] ?_
 iterate 2 refine op1 tok ?_
 refine qA ?_
 refine rgn [] [[]] ?_
 refine op1 tok ?_
 refine qV ?_
 refine qE.stepK [2, 4] (wY rfl hm (by simp)) (by conv => lhs; simp) rfl ?_
 refine qE.run [[2]] ?_
 refine op1 tok ?_
 refine qA ?_
 exact AW.ret ⟨.inr rfl, _, _, by (conv => lhs; simp), trivial, by simp, by simp, by simp, by simp⟩
def kF (s p : List UInt8) : Bool := decide (p.length ≤ s.length) && decide (s.take p.length = p)
@[simp] theorem sHasPrefix_ev (s p : List UInt8) : AFn Tryz.prog G 203 [.str s, .str p] (.bool (kF s p)) := by
 refine AFn.intro tok Tryz.func203 (by kernel_rfl) rfl ?_
 simp only [Tryz.f203, St.start]
 refine AW.seqRun tok [] (by intro C; conv => lhs; simp) trivial ?_
 refine AW.seqRun tok [] (by intro C; conv => lhs; simp) (by simp +contextual) ?_
 exact AW.ret ⟨.inr rfl, _, _, by (conv => lhs; simp), trivial, by simp [kF]⟩
@[simp] theorem HasPrefix_ev (s p : List UInt8) : AFn Tryz.prog G 153 [.str s, .str p] (.bool (kF s p)) := by
 refine AFn.intro tok Tryz.func153 (by kernel_rfl) rfl ?_
 simp only [Tryz.f153, St.start]
 refine AW.seqRun tok [] (by intro C; conv => lhs; simp) trivial ?_
 refine AW.seqRun tok [.tup [.str s, .str p], .bool (kF s p)] (by intro C; conv => lhs; simp) (by simp) ?_
 exact AW.ret ⟨.inr rfl, _, _, by (conv => lhs; simp), trivial, by simp⟩
def qAS (s p : List UInt8) : List UInt8 := if kF s p then s.drop p.length else s
@[simp] theorem sCutPrefix_ev (s p : List UInt8) : AFn Tryz.prog G 225 [.str s, .str p] (.tup [.str (qAS s p), .bool (kF s p)]) := by
 refine AFn.intro tok Tryz.func225 (by kernel_rfl) rfl ?_
 simp only [Tryz.f225, St.start]
 refine AW.seqRun tok [] (by intro C; conv => lhs; simp) trivial ?_
 refine AW.seq ?_
 refine AW.seqRun tok [.tup [.str s, .str p], .bool (kF s p)] (by intro C; conv => lhs; simp) (by simp) ?_
 refine AW.cond (c := .tmp 9) (by conv => lhs; simp) trivial ?_ ?_
 ·intro h1
  simp at h1
  refine AW.seqRun tok [] (by intro C; conv => lhs; simp) trivial ?_
  exact AW.ret ⟨.inr rfl, _, _, by (conv => lhs; simp), trivial, by simp [qAS, h1]⟩
 ·intro h1
  simp at h1
  refine AW.skip ?_
  refine AW.seqRun tok [] (by intro C; conv => lhs; simp) (by simp [kF] at h1 ⊢; omega) ?_
  exact AW.ret ⟨.inr rfl, _, _, by (conv => lhs; simp), trivial, by simp [qAS, h1]⟩
@[simp] theorem qHL (s p : List UInt8) : AFn Tryz.prog G 198 [.str s, .str p] (.tup [.str (qAS s p), .bool (kF s p)]) := by
 refine AFn.intro tok Tryz.func198 (by kernel_rfl) rfl ?_
 simp only [Tryz.f198, St.start]
 refine AW.seqRun tok [] (by intro C; conv => lhs; simp) trivial ?_
 refine AW.seqRun tok [.tup [.str s, .str p], .tup [.str (qAS s p), .bool (kF s p)]] (by intro C; conv => lhs; simp) (by simp) ?_
 exact AW.ret ⟨.inr rfl, _, _, by (conv => lhs; simp), trivial, by simp⟩
theorem ext68 : IsExt Tryz.prog 281 Extern.BytealgIndexByte.indexByte := fun args w => run_callFunc_extern Tryz.func281 (by kernel_rfl) (by kernel_rfl) (by kernel_rfl) (by kernel_rfl) args w
@[simp] theorem sIndexByte_ev (s : List UInt8) (n : Int) : AFn Tryz.prog G 276 [.str s, .int .u8 n] (.int .i64 (Lib.indexByte s n.toNat.toUInt8)) := by
 refine AFn.intro tok Tryz.func276 (by kernel_rfl) rfl ?_
 simp only [Tryz.f276, St.start]
 refine AW.seqRun tok [] (by intro C; conv => lhs; simp) trivial ?_
 refine AW.seqRunX tok 2 [] [] rfl rfl (by intro C; conv => lhs; simp) trivial (qSX (s := s) (n := n) (p := True) (q := True) (r := True) ext68 rfl (by simp) trivial (by simp) trivial (by simp) trivial) (by intro C; conv => lhs; simp) trivial ?_
 exact AW.ret ⟨.inr rfl, _, _, by (conv => lhs; simp), trivial, by simp⟩
@[simp] theorem IndexByte_ev (s : List UInt8) (n : Int) : AFn Tryz.prog G 265 [.str s, .int .u8 n] (.int .i64 (Lib.indexByte s n.toNat.toUInt8)) := by
 refine AFn.intro tok Tryz.func265 (by kernel_rfl) rfl ?_
 simp only [Tryz.f265, St.start]
 refine AW.seqRun tok [] (by intro C; conv => lhs; simp) trivial ?_
 refine AW.seqRun tok [.tup [.str s, .int .u8 n], .int .i64 (Lib.indexByte s n.toNat.toUInt8)] (by intro C; conv => lhs; simp) (by simp) ?_
 exact AW.ret ⟨.inr rfl, _, _, by (conv => lhs; simp), trivial, by simp⟩
theorem qMH {s : List UInt8} {k : Nat} (h : k < s.length) : s[k]? = some (s.getD k 0) := by simp [List.getD_eq_getElem?_getD, h]
theorem qCU (s : List UInt8) (c : UInt8) : AFn Tryz.prog G 190 [.str s, .int .u8 c.toNat] (.str (s.dropWhile (fun b => b == c))) := by
 refine AFn.introU tok Tryz.func190 (by kernel_rfl) rfl rfl ?_
 simp only [Tryz.f190, qK, List.map_cons, List.map_nil]
 refine rgn [] [[0, 1]] ?_
 refine op1 tok ?_
 refine qA ?_
 refine AW.seq ?_
 refine AW.block ?_
 refine AW.loop (α := List UInt8) (fun r => r.dropWhile (fun b => b == c) = s.dropWhile (fun b => b == c)) (fun r => ⟨qW 17 [(0, .p (.str r)), (1, .p (.int .u8 c.toNat))], [], [], 0⟩) (fun r => r.length) (s) rfl ⟨qB (by simp), rfl, by simp, by simp⟩ ?_
 rintro r hr
 have hix : 0 < r.length → r[0]? = some (r.getD 0 0) := fun h => qMH h
 refine AW.seq ?_
 refine rgn [.int .u8 (r.getD 0 0).toNat] [[], [], [], [], [], [0, 1, 8, 10], [], [], [0, 1, 13]] ?_
 iterate 4 refine op1 tok ?_ (hv := by first | with_reducible exact True.intro | (first | exact fun h => ⟨h, _, hix (by omega), rfl⟩ | simp; done) | omega | simp | (simp +contextual; omega))
 iterate 4 refine op2 tok ?_ (hv := by first | with_reducible exact True.intro | (first | exact fun h => ⟨h, _, hix (by omega), rfl⟩ | simp; done) | omega | simp | (simp +contextual; omega))
 refine op1 tok ?_ (hv := by first | with_reducible exact True.intro | (first | exact fun h => ⟨h, _, hix (by omega), rfl⟩ | simp; done) | omega | simp | (simp +contextual; omega))
 refine qA ?_
 refine cnd ?_ ?_
 ·intro h13
  try simp at h13
  obtain ⟨b, r, rfl⟩ : ∃ b r', r = b :: r' := by
   cases r with
   | nil => simp at h13
   | cons b r => exact ⟨b, r, rfl⟩
  have hb : b = c := UInt8.toNat_inj.1 (by have := h13.2; simp at this; omega)
  subst hb
  have hr2 : List.dropWhile (fun b' => b' == b) r = List.dropWhile (fun b' => b' == b) s := by rw [← hr]; simp
  refine AW.skip ?_
  refine AW.block ?_
  refine rgz [] [[], [], [0, 1]] ?_
  iterate 3 refine op1 tok ?_
  refine qA ?_
  exact ⟨r, hr2, by simp, qB (by simp), rfl, by simp, by simp⟩
 ·intro h13
  try simp at h13
  have hr3 : s.dropWhile (fun b => b == c) = r := by
   rw [← hr]
   cases r with
   | nil => rfl
   | cons b r =>
    have hb : b ≠ c := by rintro rfl; simp at h13
    simp [hb]
  rw [hr3]
  refine AW.exit ?_
  simp
  refine rgn [] [[], [4]] ?_
  iterate 2 refine op1 tok ?_
  refine qA ?_
  exact AW.ret ⟨.inr rfl, _, _, by (conv => lhs; simp), trivial, by simp⟩
theorem qTN (s : List UInt8) (c : UInt8) : (decide (1 ≤ (s.length : Int)) && decide (List.drop (s.length - 1) s = [c])) = decide (s.getLast? = some c) := by
 by_cases h : s = []
 ·subst h; simp
 ·obtain ⟨a, b, rfl⟩ : ∃ a b, s = a ++ [b] := ⟨s.dropLast, s.getLast h, (List.dropLast_concat_getLast h).symm⟩
  rw [Bool.eq_iff_iff]
  simp
  intro _; omega
theorem qNB (s : List UInt8) (c : UInt8) : AFn Tryz.prog G 194 [.str s, .str [c]] (.bool (decide (s.getLast? = some c))) := by
 refine AFn.introU tok Tryz.func194 (by kernel_rfl) rfl rfl ?_
 simp only [Tryz.f194, qK, List.map_cons, List.map_nil]
 refine AW.strFactU (i := 0) rfl (by decide) ?_
 intro hlen
 have hsuf : (decide (1 ≤ (s.length : Int)) && decide (List.drop (s.length - 1) s = [c])) = decide (s.getLast? = some c) := qTN s c
 refine rgn [] [[0, 1]] ?_
 refine op1 tok ?_
 refine qA ?_
 refine rgn [] [[], [], [], [], [0, 1, 9], [], [], [], [], [], [1, 10, 11, 13, 15], [], [1, 10, 17], [], [], [20], [4]] ?_
 iterate 6 refine op1 tok ?_
 iterate 9 refine op2 tok ?_
 iterate 2 refine op1 tok ?_
 refine qA ?_
 exact AW.ret ⟨.inr rfl, _, _, by (conv => lhs; simp), trivial, by simp [hsuf]⟩
theorem qSS (s : List UInt8) (c : UInt8) : AFn Tryz.prog G 147 [.str s, .str [c]] (.bool (decide (s.getLast? = some c))) := by
 refine AFn.introU tok Tryz.func147 (by kernel_rfl) rfl rfl ?_
 simp only [Tryz.f147, qK, List.map_cons, List.map_nil]
 refine rgn [] [[0, 1]] ?_
 refine op1 tok ?_
 refine qA ?_
 refine rgn [.nilp, .bool (decide (s.getLast? = some c))] [[], [], [7], [4]] ?_
 iterate 4 refine op1 tok ?_ (hv := by first | with_reducible exact True.intro | (exact qNB s c; done) | omega | simp | (simp +contextual; omega))
 refine qA ?_
 exact AW.ret ⟨.inr rfl, _, _, by (conv => lhs; simp), trivial, by simp⟩
theorem vZ (s : List UInt8) (c : UInt8) (hc : c.toNat < 128) : AFn Tryz.prog G 146 [.str s, .str [c]] (.str (s.dropWhile (fun b => b == c))) := by
 refine AFn.introU tok Tryz.func146 (by kernel_rfl) rfl rfl ?_
 simp only [Tryz.f146, qK, List.map_cons, List.map_nil]
 refine rgn [] [[0, 1]] ?_
 refine op1 tok ?_
 refine qA ?_
 refine AW.seq ?_
 refine rgn [] [[], [], [], [], [], [0, 1, 12]] ?_
 iterate 3 refine op1 tok ?_
 iterate 2 refine op2 tok ?_
 refine op1 tok ?_
 refine qA ?_
 refine cnd ?_ ?_
 ·intro h12
  try simp at h12
  subst h12
  refine rgn [] [[], [4]] ?_
  iterate 2 refine op1 tok ?_
  refine qA ?_
  exact AW.ret ⟨.inr rfl, _, _, by (conv => lhs; simp), trivial, by simp⟩
 ·intro h12
  try simp at h12
  refine AW.skip ?_
  refine AW.seq ?_
  refine rgn [.int .u8 c.toNat] [[], [], [], [], [], [0, 1, 17, 19], [], [0, 1, 21]] ?_
  iterate 4 refine op1 tok ?_ (hv := by first | with_reducible exact True.intro | (simp; done) | omega | simp | (simp +contextual; omega))
  iterate 3 refine op2 tok ?_ (hv := by first | with_reducible exact True.intro | (simp; done) | omega | simp | (simp +contextual; omega))
  refine op1 tok ?_ (hv := by first | with_reducible exact True.intro | (simp; done) | omega | simp | (simp +contextual; omega))
  refine qA ?_
  refine cnd ?_ ?_
  ·intro h21
   try simp at h21
   refine rgn [.int .u8 c.toNat, .nilp, .str (s.dropWhile (fun b => b == c))] [[], [], [], [25], [4]] ?_
   iterate 5 refine op1 tok ?_ (hv := by first | with_reducible exact True.intro | (first | exact qCU s c | simp; done) | omega | simp | (simp +contextual; omega))
   refine qA ?_
   exact AW.ret ⟨.inr rfl, _, _, by (conv => lhs; simp), trivial, by simp⟩
  ·intro h21
   try simp at h21
   omega
theorem qTM (s : List UInt8) : (if s.all (fun b => !qAP b.toNat) then (-1 : Int) else (((s.takeWhile fun b => !qAP b.toNat).length : Nat) : Int)) = if s.all qG then -1 else ((s.takeWhile qG).length : Int) := by
 have e : (fun b : UInt8 => !qAP b.toNat) = qG := by funext b; rw [other_dig]; simp
 rw [e]
theorem qVD (s : List UInt8) : qAR qAP s = if s.all qG then -1 else ((s.takeWhile qG).length : Int) := by
 rw [qRU (fun n h => by simp [qAP] <;> omega), qTM]
theorem all_tw {s : List UInt8} (h : s.all qG = true) : s.takeWhile qG = s ∧ s.dropWhile qG = [] := by
 have := tw_of (W := s) (F := []) h (by simp)
 simpa using this
theorem take_tw (s : List UInt8) : s.take (s.takeWhile qG).length = s.takeWhile qG ∧ s.drop (s.takeWhile qG).length = s.dropWhile qG := by
 have h := List.takeWhile_append_dropWhile (p := qG) (l := s)
 generalize s.takeWhile qG = A at *
 generalize s.dropWhile qG = B at *
 subst h
 simp
theorem tw_le (s : List UInt8) : (s.takeWhile qG).length ≤ s.length := (List.takeWhile_sublist _).length_le
theorem dw_le (s : List UInt8) : (s.dropWhile qG).length ≤ s.length := (List.dropWhile_sublist _).length_le
theorem qSN {s : List UInt8} {n : Int} (hc : (if s.all qG = true then (-1 : Int) else ((s.takeWhile qG).length : Int)) = n) (h : n < 0) : (s.takeWhile qG).length = s.length := by
 split at hc
 ·rename_i ha; rw [(all_tw ha).1]
 ·omega
theorem qKR {s : List UInt8} {n : Int} (hc : (if s.all qG = true then (-1 : Int) else ((s.takeWhile qG).length : Int)) = n) (h : 0 ≤ n) : n = ((s.takeWhile qG).length : Int) := by
 split at hc
 ·omega
 ·omega
theorem qFQ (s : List UInt8) : AFn Tryz.prog G 199 [.str s] (.tup [.str (s.takeWhile qG), .str (s.dropWhile qG)]) := by
 refine AFn.introU tok Tryz.func199 (by kernel_rfl) rfl rfl ?_
 simp only [Tryz.f199, qK, List.map_cons, List.map_nil]
 have hI := qSR (G := G) s 227 qAP other_ev
 rw [qVD] at hI
 have htw := take_tw s
 have hle := tw_le s
 generalize hc : (if s.all qG = true then (-1 : Int) else ((s.takeWhile qG).length : Int)) = n at hI
 refine rgn [] [[], [0]] ?_
 iterate 2 refine op1 tok ?_
 refine qA ?_
 refine rgn [.nilp, .int .i64 n] [[], [], [0, 4]] ?_
 iterate 3 refine op1 tok ?_ (hv := by first | with_reducible exact True.intro | (exact hI; done) | omega | simp | (simp +contextual; omega))
 refine qA ?_
 refine AW.join (α := Unit) (fun _ => True) (fun a => ⟨qW 17 [(0, .p (.str s)), (4, .p (.int .i64 (s.takeWhile qG).length))], [], [], 0⟩) ?_ ?_
 ·
  refine rgn [] [[], [0, 4, 8]] ?_
  iterate 2 refine op1 tok ?_
  refine qA ?_
  refine cnd ?_ ?_
  ·intro h8
   try simp at h8
   refine rgz [] [[], [], [0, 4]] ?_
   iterate 3 refine op1 tok ?_
   refine qA ?_
   exact ⟨(), trivial, qB (by simp [qSN hc h8]), rfl, by simp [qSN hc h8], by simp [qSN hc h8]⟩
  ·intro h8
   try simp at h8
   refine AW.skip ?_
   exact ⟨(), trivial, qB (by simp [qKR hc h8]), rfl, by simp [qKR hc h8], by simp [qKR hc h8]⟩
 ·
  rintro a hI
  refine AW.seqRunDrawK tok mixed [2, 3] 7 [[0], [4], [11, 12], [0], [4], [14, 15], [13]] [] [] (by kernel_rfl) (by intro C; conv => lhs; simp) (by omega) (by simp [Sm.sum, Sm.foot, Sm.tch, Sm.refs]; kernel_rfl) (by intro C; conv => lhs; simp) (by first | with_reducible exact True.intro | omega | simp | (simp +contextual; omega)) ?_
  exact AW.ret ⟨.inr rfl, _, _, by (conv => lhs; simp), trivial, by simp [htw.1, htw.2]⟩
theorem dw48_le (s : List UInt8) : (qL s).length ≤ s.length := (List.dropWhile_sublist _).length_le
theorem qPY {d : Dc} (h : zC d = true) : 1 ≤ d.digits.length ∧ d.digits.length ≤ 60 ∧ 0 ≤ d.scale ∧ d.scale ≤ 60 := by
 unfold zC at h; simp only [Bool.and_eq_true, decide_eq_true_eq] at h; omega
theorem qJW (t : List UInt8) (c : UInt8) : kF t [c] = decide (t.head? = some c) := by cases t <;> simp [kF]
theorem qNX (D : List UInt8) (c : UInt8) : qBT (D ++ [c]) = qBT D * 10 + (c.toNat - 48) := by simp [qBT]
theorem qZB {D : List UInt8} (h : D.all qG = true) : qBT D < 10 ^ D.length := by
 have key : ∀ (r : List UInt8), r.all qG = true → qBT r.reverse < 10 ^ r.length := by
  intro r
  induction r with
  | nil => intro _; decide
  | cons b r ih =>
   intro h
   simp only [List.all_cons, Bool.and_eq_true, qG, kG, decide_eq_true_eq] at h
   have := ih h.2
   rw [List.reverse_cons, qNX, List.length_cons, Nat.pow_succ]; omega
 have := key D.reverse (by simpa using h)
 simpa using this
theorem tw_all (s : List UInt8) : (s.takeWhile qG).all qG = true := List.all_takeWhile
theorem sign_le (t : List UInt8) : (yC t).length ≤ t.length := by unfold yC; split <;> simp
theorem signT {t : List UInt8} {a b : Bool} (h1 : a = decide (t.head? = some 45)) (h2 : b = decide (t.head? = some 43)) (h : a = true ∨ b = true) : t.tail = yC t ∧ 1 ≤ t.length := by
 subst h1; subst h2
 simp only [decide_eq_true_eq] at h
 unfold yC; rw [if_pos h]
 refine ⟨by simp, ?_⟩
 cases t with
 | nil => simp at h
 | cons a t => simp
theorem signF {t : List UInt8} {a b : Bool} (h1 : a = decide (t.head? = some 45)) (h2 : b = decide (t.head? = some 43)) (h : a = false ∧ b = false) : t = yC t := by
 subst h1; subst h2
 simp only [decide_eq_false_iff_not] at h
 unfold yC; rw [if_neg (fun h' => h'.elim h.1 h.2)]
theorem qVG (s : List UInt8) (hs : s.length ≤ 1000000000000) : AFn Tryz.prog G 200 [.str s] (.tup [.int .i64 ((qBL s).getD 0), .bool (qBL s).isSome]) := by
 refine AFn.introU tok Tryz.func200 (by kernel_rfl) rfl rfl ?_
 simp only [Tryz.f200, qK, List.map_cons, List.map_nil]
 refine rgn [] [[], [0]] ?_
 iterate 2 refine op1 tok ?_
 refine qA ?_
 refine AW.seq ?_
 refine rgn [] [[], [0, 11]] ?_
 iterate 2 refine op1 tok ?_
 refine qA ?_
 refine cnd ?_ ?_
 ·intro h11
  try simp at h11
  subst h11
  refine rgn [] [[], []] ?_
  iterate 2 refine op1 tok ?_
  refine qA ?_
  exact AW.ret ⟨.inr rfl, _, _, by (conv => lhs; simp), trivial, by simp [qBL]⟩
 ·intro h11
  try simp at h11
  obtain ⟨b, t, rfl⟩ : ∃ b t, s = b :: t := by
   cases s with
   | nil => exact absurd rfl h11
   | cons b t => exact ⟨b, t, rfl⟩
  have hp1 := qJW t 45
  have hp2 := qJW t 43
  have hlt := sign_le t
  simp only [List.length_cons] at hs
  refine AW.skip ?_
  refine AW.seq ?_
  refine rgn [.int .u8 b.toNat, .int .u8 b.toNat] [[], [], [], [], [], [0, 15, 17], [], [0, 19]] ?_
  iterate 4 refine op1 tok ?_ (hv := by first | with_reducible exact True.intro | (simp; done) | omega | simp | (simp +contextual; omega))
  iterate 3 refine op2 tok ?_ (hv := by first | with_reducible exact True.intro | (simp; done) | omega | simp | (simp +contextual; omega))
  refine op1 tok ?_ (hv := by first | with_reducible exact True.intro | (simp; done) | omega | simp | (simp +contextual; omega))
  refine qA ?_
  refine cnd ?_ ?_
  ·intro h19
   try simp at h19
   have he : qBL (b :: t) = none := by
    unfold qBL; simp only; rw [if_pos ⟨by rintro rfl; exact h19.1 rfl, by rintro rfl; exact h19.2 rfl⟩]
   refine rgn [] [[], []] ?_
   iterate 2 refine op1 tok ?_
   refine qA ?_
   exact AW.ret ⟨.inr rfl, _, _, by (conv => lhs; simp), trivial, by simp [he]⟩
  ·intro h19
   try simp at h19
   have hb : ¬ (b ≠ 101 ∧ b ≠ 69) := by
    rintro ⟨h1, h2⟩
    have h1' : b.toNat ≠ 101 := fun e => h1 (UInt8.toNat_inj.1 e)
    have h2' : b.toNat ≠ 69 := fun e => h2 (UInt8.toNat_inj.1 e)
    have := h19 (by omega)
    omega
   have he : qBL (b :: t) = if (yC t).dropWhile qG ≠ [] ∨ ((yC t).takeWhile qG).length < 1 ∨ 2 < ((yC t).takeWhile qG).length then none
     else some (if t.head? = some 45 then - (qBT ((yC t).takeWhile qG) : Int) else qBT ((yC t).takeWhile qG)) := by
    unfold qBL; simp only; rw [if_neg hb]
   rw [he]
   clear he
   have hlead := qFQ (G := G) (yC t)
   have hall := tw_all (yC t)
   refine AW.skip ?_
   refine rgn [] [[], [], [0]] ?_
   iterate 3 refine op1 tok ?_
   refine qA ?_
   refine rgn [.nilp, .bool (kF t [45])] [[], [], [0, 4]] ?_
   iterate 3 refine op1 tok ?_
   refine qA ?_
   refine AW.join (α := Unit) (fun _ => True) (fun a => ⟨qW 63 [(0, .p (.str (yC t))), (4, .p (.bool (kF t [45])))], [], [], 0⟩) ?_ ?_
   ·
    refine rgn [.nilp, .bool (kF t [43])] [[], [], [], [], [0, 4, 28]] ?_
    iterate 2 refine op1 tok ?_
    iterate 2 refine op2 tok ?_
    refine op1 tok ?_
    refine qA ?_
    refine cnd ?_ ?_
    ·intro h28
     try simp at h28
     have hsT := signT hp1 hp2 h28
     refine rgz [] [[], [], [0, 4]] ?_
     iterate 3 refine op1 tok ?_
     refine qA ?_
     exact ⟨(), trivial, qB (by simp [hsT.1]), rfl, by simp [hsT.1], by simp [hsT.1]⟩
    ·intro h28
     try simp at h28
     refine AW.skip ?_
     exact ⟨(), trivial, qB (by simp [(signF hp1 hp2 h28).symm]), rfl, by simp [(signF hp1 hp2 h28).symm], by simp [(signF hp1 hp2 h28).symm]⟩
   ·
    rintro a hI
    generalize yC t = u at *
    generalize u.takeWhile qG = D at *
    generalize u.dropWhile qG = E at *
    refine rgn [.nilp, .tup [.str D, .str E]] [[], [], [], [], [4, 34, 35], [], [4, 5, 6]] ?_
    iterate 7 refine op1 tok ?_ (hv := by first | with_reducible exact True.intro | (exact hlead; done) | omega | simp | (simp +contextual; omega))
    refine qA ?_
    refine AW.seq ?_
    refine rgn [] [[], [], [], [], [4, 5, 38, 40], [], [], [4, 5, 43], [], [], [], [4, 5, 47]] ?_
    iterate 12 first | refine op1 tok ?_ | refine op2 tok ?_
    refine qA ?_
    refine cnd ?_ ?_
    ·intro h47
     try simp at h47
     rw [if_pos (h47.elim (fun h => h.elim .inl (fun h => .inr (.inl (by omega)))) (fun h => .inr (.inr (by omega))))]
     refine rgn [] [[], []] ?_
     iterate 2 refine op1 tok ?_
     refine qA ?_
     exact AW.ret ⟨.inr rfl, _, _, by (conv => lhs; simp), trivial, by simp⟩
    ·intro h47
     try simp at h47
     rw [if_neg (by
      rintro (h | h)
      ·exact h h47.1.1
      ·omega)]
     have hD2 : D.length ≤ 2 := by omega
     refine AW.skip ?_
     refine rgn [] [[]] ?_
     refine op1 tok ?_
     refine qA ?_
     refine AW.seq ?_
     refine rgn [] [[], [4, 7, 49]] ?_
     iterate 2 refine op1 tok ?_
     refine qA ?_
     refine AW.block ?_
     refine AW.loop (α := Nat) (fun pos => pos ≤ D.length) (fun pos => ⟨qW 63 [(4, .p (.bool (kF t [45]))), (7, .p (.int .i64 (qBT (D.take pos)))), (49, .it 49)], [], [(49, .iter D pos)], 0⟩) (fun pos => D.length - pos) (0) (by omega) ⟨qB (by simp [qBT]), rfl, by simp, by simp⟩ ?_
     rintro pos hp
     have hvl : qBT (D.take pos) < 10 ^ (D.take pos).length := qZB (qBQ hall pos)
     have hpw : 10 ^ (D.take pos).length ≤ 10 ^ 2 := Nat.pow_le_pow_right (by omega) (by simp; omega)
     by_cases hs14 : pos < D.length
     ·
      refine rgn [.bool true] [[], []] ?_
      iterate 2 refine op1 tok ?_ (hv := by first | with_reducible exact True.intro | (simpa using hs14; done) | omega | simp | (simp +contextual; omega))
      refine qA ?_
      refine AW.seq ?_
      refine cnd ?_ ?_
      ·intro h51
       try simp at h51
       obtain ⟨c, hc⟩ : ∃ c, D[pos]? = some c := ⟨D[pos], by simp [hs14]⟩
       have hcd : qG c = true := List.all_eq_true.1 hall c (List.mem_of_getElem? hc)
       have hcd2 : 48 ≤ c.toNat ∧ c.toNat ≤ 57 := by simp [qG, kG] at hcd; omega
       have hdl : uS D pos = (c.toNat, 1) := by
        have hg : D.getD pos 0 = c := by simp [List.getD_eq_getElem?_getD, hc]
        have := qCL (s := D) (pos := pos) hs14 (by rw [hg]; omega)
        rw [hg] at this; exact this
       have hsn : qBT (D.take (pos + 1)) = qBT (D.take pos) * 10 + (c.toNat - 48) := by rw [List.take_add_one, hc]; exact qNX _ _
       rw [hdl]
       refine AW.skip ?_
       refine AW.block ?_
       refine rgn [] [[], [4, 7, 9, 49]] ?_
       iterate 2 refine op1 tok ?_
       refine qA ?_
       refine rgz [] [[], [], [], [4, 49, 54, 56], [], [], [4, 7, 49]] ?_
       iterate 7 refine op1 tok ?_ (hv := by first | with_reducible exact True.intro | (omega; done) | omega | simp | (simp +contextual; omega))
       refine qA ?_
       exact ⟨pos + 1, by omega, by omega, qB (by simp [hsn, (show ((c.toNat - 48 : Nat) : Int) = (c.toNat : Int) - 48 by omega)]), rfl, by simp [hsn, (show ((c.toNat - 48 : Nat) : Int) = (c.toNat : Int) - 48 by omega)], by simp [hsn, (show ((c.toNat - 48 : Nat) : Int) = (c.toNat : Int) - 48 by omega)]⟩
      ·intro h51
       try simp at h51
     ·
      refine rgn [.bool false] [[], []] ?_
      iterate 2 refine op1 tok ?_ (hv := by first | with_reducible exact True.intro | (simpa using hs14; done) | omega | simp | (simp +contextual; omega))
      refine qA ?_
      refine AW.seq ?_
      refine cnd ?_ ?_
      ·intro h51
       try simp at h51
      ·intro h51
       try simp at h51
       have hpD : D.take pos = D := List.take_of_length_le (by omega)
       rw [hpD] at hvl hpw ⊢
       refine AW.exit ?_
       simp
       refine AW.seq ?_
       refine rgn [] [[7, 59]] ?_
       refine op1 tok ?_
       refine qA ?_
       refine cnd ?_ ?_
       ·intro h59
        try simp at h59
        rw [hp1] at h59
        have ht : t.head? = some 45 := by simpa using h59
        rw [if_pos ht]
        have hw : IntKind.i64.wrap (-(qBT D : Int)) = -(qBT D : Int) := by simp [IntKind.wrap, IntKind.bits, IntKind.signed]; omega
        refine rgz [] [[], [], [7]] ?_
        iterate 3 refine op1 tok ?_ (hv := by first | with_reducible exact True.intro | (omega; done) | omega | simp | (simp +contextual; omega))
        refine qA ?_
        refine rgn [] [[], [], [2, 3]] ?_
        iterate 3 refine op1 tok ?_
        refine qA ?_
        exact AW.ret ⟨.inr rfl, _, _, by (conv => lhs; simp), trivial, by simp [hw]⟩
       ·intro h59
        try simp at h59
        rw [hp1] at h59
        have ht : ¬ t.head? = some 45 := by simpa using h59
        rw [if_neg ht]
        refine AW.skip ?_
        refine rgn [] [[], [], [2, 3]] ?_
        iterate 3 refine op1 tok ?_
        refine qA ?_
        exact AW.ret ⟨.inr rfl, _, _, by (conv => lhs; simp), trivial, by simp⟩
theorem qRQ (neg : Bool) (digits : List UInt8) (scale : Nat) (hd : digits.length ≤ 10000000000) (hs : scale ≤ 10000000000) : AFn Tryz.prog G 90 [.bool neg, .str digits, .int .i64 scale] (.tup [(wD neg digits scale).1.enc, .int .i64 (wD neg digits scale).2]) := by
 refine AFn.introU tok Tryz.func90 (by kernel_rfl) rfl rfl ?_
 simp only [Tryz.f90, qK, List.map_cons, List.map_nil]
 have hstr : (qL digits).length ≤ digits.length := dw48_le digits
 refine rgn [] [[], [0, 1, 2, 6]] ?_
 iterate 2 refine op1 tok ?_
 refine qA ?_
 refine rgn [.nilp, .str (qL digits)] [[], [], [0, 1, 2, 6]] ?_
 iterate 3 refine op1 tok ?_ (hv := by first | with_reducible exact True.intro | (exact vZ digits 48 (by decide); done) | omega | simp | (simp +contextual; omega))
 refine qA ?_
 refine AW.seq ?_
 refine AW.block ?_
 refine AW.loop (α := List UInt8 × Nat) (fun a => wB (qL digits) scale = wB a.1 a.2 ∧ a.2 ≤ scale ∧ a.1.length ≤ digits.length) (fun a => ⟨qW 40 [(0, .p (.bool neg)), (1, .p (.str a.1)), (2, .p (.int .i64 a.2)), (6, .ptr 6 0)], [], [(6, .vars 26 [.p (.bool false), .p (.str []), .p (.int .i64 0)])], 0⟩) (fun a => a.2) ((qL digits, scale)) ⟨rfl, Nat.le_refl _, hstr⟩ ⟨qB (by simp), rfl, by simp, by simp⟩ ?_
 rintro ⟨d, k⟩ ⟨ht, hk, hdl⟩
 simp only at ht hk hdl
 have hsf := qSS (G := G) d 48
 refine AW.seq ?_
 refine rgn [.nilp, .bool (decide (d.getLast? = some 48))] [[], [], [], [], [], [0, 1, 2, 6, 15]] ?_
 iterate 3 refine op1 tok ?_ (hv := by first | with_reducible exact True.intro | (first | exact fun h => ⟨h, hsf⟩ | simp; done) | omega | simp | (simp +contextual; omega))
 iterate 2 refine op2 tok ?_ (hv := by first | with_reducible exact True.intro | (first | exact fun h => ⟨h, hsf⟩ | simp; done) | omega | simp | (simp +contextual; omega))
 refine op1 tok ?_ (hv := by first | with_reducible exact True.intro | (first | exact fun h => ⟨h, hsf⟩ | simp; done) | omega | simp | (simp +contextual; omega))
 refine qA ?_
 refine cnd ?_ ?_
 ·intro h15
  try simp at h15
  obtain ⟨k, rfl⟩ : ∃ k', k = k' + 1 := ⟨k - 1, by omega⟩
  have hl : d.getLast? = some 48 := by simpa using h15.2
  have hpos : 0 < d.length := by cases d with
   | nil => simp at hl
   | cons => simp
  have ht' : wB (qL digits) scale = wB d.dropLast k := by rw [ht]; simp only [wB]; rw [if_pos hl]
  refine AW.skip ?_
  refine AW.block ?_
  refine rgz [] [[], [], [], [], [0, 2, 6, 20], [], [], [], [0, 1, 2, 6]] ?_
  iterate 9 refine op1 tok ?_ (hv := by first | with_reducible exact True.intro | (omega; done) | omega | simp | (simp +contextual; omega))
  refine qA ?_
  exact ⟨(d.dropLast, k), ⟨ht', by simp only []; omega, by simp; omega⟩, by simp, qB (by simp [uA]), rfl, by simp [uA], by simp [uA]⟩
 ·intro h15
  try simp at h15
  have htl : wB (qL digits) scale = (d, k) := by
   rw [ht]
   cases k with
   | zero => rfl
   | succ k =>
    simp only [wB]
    rw [if_neg]
    intro hl
    have := h15 (by omega)
    simp [hl] at this
  have hN : wD neg digits scale = if d = [] then (⟨false, [48], 0⟩, 0) else if 60 < d.length ∨ 60 < k then (⟨false, [], 0⟩, 3) else (⟨neg, d, k⟩, 0) := by unfold wD; simp only [htl]
  rw [hN]
  refine AW.exit ?_
  simp
  refine AW.seq ?_
  refine AW.block ?_
  refine rgn [] [[], [], [0, 1, 2, 6, 23]] ?_
  iterate 3 refine op1 tok ?_
  refine qA ?_
  refine cnd ?_ ?_
  ·intro h23
   try simp at h23
   subst h23
   refine rgn [] [[], [], [6, 7]] ?_
   iterate 3 refine op1 tok ?_
   refine qA ?_
   exact AW.ret ⟨.inr rfl, _, _, by (conv => lhs; simp), trivial, by simp⟩
  ·intro h23
   try simp at h23
   rw [if_neg h23]
   refine rgn [] [[], [], [], [], [], [0, 1, 2, 6, 31, 33], [], [0, 1, 2, 6, 27]] ?_
   iterate 4 refine op1 tok ?_
   iterate 2 refine op2 tok ?_
   iterate 2 refine op1 tok ?_
   refine qA ?_
   refine cnd ?_ ?_
   ·intro h27
    try simp at h27
    rw [if_pos (by omega)]
    refine rgn [] [[], [], [6, 7]] ?_
    iterate 3 refine op1 tok ?_
    refine qA ?_
    exact AW.ret ⟨.inr rfl, _, _, by (conv => lhs; simp), trivial, by simp⟩
   ·intro h27
    try simp at h27
    rw [if_neg (by omega)]
    refine AW.skip ?_
    refine rgn [] [[], [], [], [6, 39], [], [6, 7]] ?_
    iterate 6 refine op1 tok ?_
    refine qA ?_
    exact AW.ret ⟨.inr rfl, _, _, by (conv => lhs; simp), trivial, by simp⟩
theorem body_pre (s : List UInt8) : qAS s [45] = xU s ∧ kF s [45] = qLP s := by
 have h := qJW s 45
 unfold qAS xU qLP
 rw [h]
 refine ⟨?_, rfl⟩
 simp
theorem body_le (s : List UInt8) : (xU s).length ≤ s.length := by unfold xU; split <;> simp
theorem head48 {W : List UInt8} (h : (((W[0]?.getD 0).toNat : Nat) : Int) = 48) : W.head? = some 48 := by
 cases W with
 | nil => simp at h
 | cons b W => simp at h ⊢; exact UInt8.toNat_inj.1 (by show b.toNat = 48; omega)
theorem rep48 (n : Nat) : Lib.repeatL [48] n = zU n := by
 unfold zU
 induction n with
 | zero => rfl
 | succ n ih => simp only [Lib.repeatL, List.replicate_succ, ih]; rfl
theorem qYE (q : List UInt8) : -99 ≤ (qBL q).getD 0 ∧ (qBL q).getD 0 ≤ 99 := by
 unfold qBL
 split
 ·simp
 ·rename_i b t
  split
  ·simp
  ·split
   ·simp
   ·rename_i h
    have h1 := qZB (tw_all (yC t))
    have h2 : 10 ^ ((yC t).takeWhile qG).length ≤ 10 ^ 2 := Nat.pow_le_pow_right (by omega) (by omega)
    simp only [Option.getD_some]
    split <;> omega
theorem qWJ (s : List UInt8) (hs : s.length ≤ 1000000000) : AFn Tryz.prog G 151 [.str s] (.tup [(wC s).1.enc, .int .i64 (wC s).2]) := by
 refine AFn.introU tok Tryz.func151 (by kernel_rfl) rfl rfl ?_
 simp only [Tryz.f151, qK, List.map_cons, List.map_nil]
 have hbp := body_pre s
 have hbl := body_le s
 have hP : wC s = match qAJ ((xU s).dropWhile qG) with
  | none => jZ
  | some (P, r) => qNN (qLP s) ((xU s).takeWhile qG) P (qBL r) := rfl
 rw [hP]
 clear hP
 have hl1 := qFQ (G := G) (xU s)
 have hw1 := tw_le (xU s)
 have hw2 := dw_le (xU s)
 have hcp := qHL (G := G) s [45]
 rw [hbp.1, hbp.2] at hcp
 generalize xU s = u at *
 generalize qLP s = ng at *
 generalize u.takeWhile qG = W at *
 generalize u.dropWhile qG = r at *
 have hcr := qHL (G := G) r [46]
 have hr46 := qJW r 46
 have hcut : qAS r [46] = if r.head? = some 46 then r.drop 1 else r := by unfold qAS; rw [hr46]; simp
 have hl2 := qFQ (G := G) (r.drop 1)
 have hv1 := tw_le (r.drop 1)
 have hv2 := dw_le (r.drop 1)
 rw [List.length_drop] at hv1 hv2
 refine rgn [] [[], [0, 2]] ?_
 iterate 2 refine op1 tok ?_
 refine qA ?_
 refine rgn [.nilp, .tup [.str u, .bool ng]] [[], [], [], [], [2, 17, 18], [], [2, 4, 5]] ?_
 iterate 7 refine op1 tok ?_ (hv := by first | with_reducible exact True.intro | (exact hcp; done) | omega | simp | (simp +contextual; omega))
 refine qA ?_
 refine rgn [.nilp, .tup [.str W, .str r]] [[], [], [], [], [2, 5, 22, 23], [], [2, 4, 5, 6]] ?_
 iterate 7 refine op1 tok ?_ (hv := by first | with_reducible exact True.intro | (exact hl1; done) | omega | simp | (simp +contextual; omega))
 refine qA ?_
 refine rgn [] [[]] ?_
 refine op1 tok ?_
 refine qA ?_
 refine AW.join (α := List UInt8 × List UInt8) (fun a => qAJ r = some (a.1, a.2) ∧ a.1.length ≤ s.length ∧ a.2.length ≤ s.length) (fun a => ⟨qW 80 [(2, .ptr 2 0), (4, .p (.str a.2)), (5, .p (.bool ng)), (6, .p (.str W)), (7, .p (.str a.1))], [], [(2, .vars 26 [.p (.bool false), .p (.str []), .p (.int .i64 0)])], 0⟩) ?_ ?_
 ·
  refine rgn [.nilp, .tup [.str (qAS r [46]), .bool (kF r [46])]] [[], [], [], [], [], [2, 4, 5, 6, 7, 8, 28], [2, 4, 5, 6, 7, 8, 9]] ?_
  iterate 7 refine op1 tok ?_ (hv := by first | with_reducible exact True.intro | (exact hcr; done) | omega | simp | (simp +contextual; omega))
  refine qA ?_
  refine rgn [] [[2, 4, 5, 6, 7, 8, 29]] ?_
  refine op1 tok ?_
  refine qA ?_
  refine cnd ?_ ?_
  ·intro h29
   try simp at h29
   have hh : r.head? = some 46 := by rw [hr46] at h29; simpa using h29
   rw [if_pos hh] at hcut
   rw [hcut]
   have hF : qAJ r = if (r.drop 1).takeWhile qG = [] then none else some ((r.drop 1).takeWhile qG, (r.drop 1).dropWhile qG) := by unfold qAJ; rw [if_pos hh]
   rw [hF]
   generalize (r.drop 1).takeWhile qG = P at *
   generalize (r.drop 1).dropWhile qG = q at *
   rw [List.drop_one] at hl2
   refine rgn [.nilp, .tup [.str P, .str q]] [[], [], [], [], [2, 5, 6, 33, 34], [], [2, 4, 5, 6, 7]] ?_
   iterate 7 refine op1 tok ?_ (hv := by first | with_reducible exact True.intro | (exact hl2; done) | omega | simp | (simp +contextual; omega))
   refine qA ?_
   refine rgn [] [[], [2, 4, 5, 6, 7, 36]] ?_
   iterate 2 refine op1 tok ?_
   refine qA ?_
   refine cnd ?_ ?_
   ·intro h36
    try simp at h36
    rw [if_pos h36]
    refine rgn [] [[], [], [2, 3]] ?_
    iterate 3 refine op1 tok ?_
    refine qA ?_
    exact AW.ret ⟨.inr rfl, _, _, by (conv => lhs; simp), trivial, by simp [jZ]⟩
   ·intro h36
    try simp at h36
    rw [if_neg h36]
    refine AW.skip ?_
    exact ⟨(P, q), ⟨rfl, by simp only []; omega, by simp only []; omega⟩, qB (by simp), rfl, by simp, by simp⟩
  ·intro h29
   try simp at h29
   have hh : ¬ r.head? = some 46 := by rw [hr46] at h29; simpa using h29
   have hF : qAJ r = some ([], r) := by unfold qAJ; rw [if_neg hh]
   rw [hF]
   refine AW.skip ?_
   exact ⟨([], r), ⟨rfl, by simp, by simp only []; omega⟩, qB (by simp), rfl, by simp, by simp⟩
 ·
  rintro ⟨P, q⟩ ⟨hf, hpl, hql⟩
  simp only at hpl hql
  rw [hf]
  simp only
  have hex := qVG (G := G) q (by omega)
  have hrg := qYE q
  generalize qBL q = e at *
  have hix : ∀ h : W ≠ [], W[0]? = some (W.getD 0 0) := fun h => qMH (List.length_pos_iff.2 h)
  refine rgn [.nilp, .tup [.int .i64 (e.getD 0), .bool e.isSome]] [[], [], [], [], [2, 5, 6, 7, 41, 42], [], [2, 5, 6, 7, 10, 11]] ?_
  iterate 7 refine op1 tok ?_ (hv := by first | with_reducible exact True.intro | (exact hex; done) | omega | simp | (simp +contextual; omega))
  refine qA ?_
  refine AW.seq ?_
  refine rgn [.int .u8 (W.getD 0 0).toNat] [[], [], [], [], [2, 5, 6, 7, 10, 45, 47], [], [], [], [2, 5, 6, 7, 10, 49, 51], [], [], [], [], [2, 5, 6, 7, 10, 49, 53, 56], [], [2, 5, 6, 7, 10, 58]] ?_
  iterate 16 first | refine op1 tok ?_ (hv := by first | with_reducible exact True.intro | (first | exact fun h1 h2 h3 => ⟨⟨⟨h1, h2⟩, h3⟩, _, hix h2, rfl⟩ | exact fun h1 h2 => ⟨⟨h1, h2⟩, fun h3 => ⟨⟨h1, h2⟩, h3⟩⟩ | simp; done) | omega | simp | (simp +contextual; omega)) | refine op2 tok ?_ (hv := by first | with_reducible exact True.intro | (first | exact fun h1 h2 h3 => ⟨⟨⟨h1, h2⟩, h3⟩, _, hix h2, rfl⟩ | exact fun h1 h2 => ⟨⟨h1, h2⟩, fun h3 => ⟨⟨h1, h2⟩, h3⟩⟩ | simp; done) | omega | simp | (simp +contextual; omega))
  refine qA ?_
  refine cnd ?_ ?_
  ·intro h58
   try simp at h58
   have hbad : qNN ng W P e = jZ := by
    cases e with
    | none => rfl
    | some up =>
     simp only [qNN]
     rw [if_pos]
     rcases h58 with (h | h) | h
     ·cases h
     ·exact .inl h
     ·exact .inr ⟨by omega, head48 h.2⟩
   rw [hbad]
   refine rgn [] [[], [], [2, 3]] ?_
   iterate 3 refine op1 tok ?_
   refine qA ?_
   exact AW.ret ⟨.inr rfl, _, _, by (conv => lhs; simp), trivial, by simp [jZ]⟩
  ·intro h58
   try simp at h58
   obtain ⟨up, rfl⟩ : ∃ up, e = some up := by
    cases e with
    | none => exact absurd rfl h58.1.1
    | some up => exact ⟨up, rfl⟩
   have hend : qNN ng W P (some up) = xT ng (W ++ P) (P.length - up) := by
    simp only [qNN]; rw [if_neg]
    rintro (h | ⟨h, h'⟩)
    ·exact h58.1.2 h
    ·refine h58.2 (by omega) ?_
     cases W with
     | nil => simp at h'
     | cons b W => simp at h'; subst h'; rfl
   rw [hend]
   simp only [Option.getD_some] at hrg ⊢
   have hWP : (W ++ P).length ≤ 2000000000 := by simp; omega
   refine AW.skip ?_
   refine rgn [] [[], [], [], [2, 5, 10, 62, 63], [], [], [2, 5, 62, 66], [], [2, 5, 12, 13]] ?_
   iterate 9 refine op1 tok ?_
   refine qA ?_
   refine AW.seq ?_
   refine rgn [] [[], [2, 5, 12, 13, 68]] ?_
   iterate 2 refine op1 tok ?_
   refine qA ?_
   refine cnd ?_ ?_
   ·intro h68
    try simp at h68
    obtain ⟨z, hz⟩ : ∃ z : Nat, (z : Int) = up - P.length := ⟨(up - P.length).toNat, by omega⟩
    have hw3 : IntKind.i64.wrap (-((P.length : Int) - up)) = (z : Int) := by simp [IntKind.wrap, IntKind.bits, IntKind.signed]; omega
    have hrp := qBR (G := G) [48] z (by simp; omega)
    rw [rep48] at hrp
    have hL : xT ng (W ++ P) ((P.length : Int) - up) = wD ng (W ++ (P ++ zU z)) 0 := by
     unfold xT; rw [if_pos h68, show (-((P.length : Int) - up)).toNat = z by omega, List.append_assoc]
    have hzl : (zU z).length = z := by simp [zU]
    rw [hL]
    have hmd := qRQ (G := G) ng (W ++ (P ++ zU z)) 0 (by simp [zU] at hWP ⊢; omega) (by omega)
    refine rgz [.nilp, .str (zU z)] [[], [], [], [2, 5, 69, 72], [], [], [2, 5, 12, 13]] ?_
    iterate 7 refine op1 tok ?_ (hv := by first | with_reducible exact True.intro | (first | (rw [hw3]; exact hrp) | (simp at hWP; omega); done) | omega | simp | (simp +contextual; omega))
    refine qA ?_
    refine rgn [.nilp, .tup [(wD ng (W ++ (P ++ zU z)) 0).1.enc, .int .i64 (wD ng (W ++ (P ++ zU z)) 0).2]] [[], [], [], [2, 77], [], [], [], [2, 3]] ?_
    iterate 8 refine op1 tok ?_ (hv := by first | with_reducible exact True.intro | (exact hmd; done) | omega | simp | (simp +contextual; omega))
    refine qA ?_
    exact AW.ret ⟨.inr rfl, _, _, by (conv => lhs; simp), trivial, by simp⟩
   ·intro h68
    try simp at h68
    obtain ⟨sc, hsc⟩ : ∃ sc : Nat, (sc : Int) = P.length - up := ⟨((P.length : Int) - up).toNat, by omega⟩
    have hL : xT ng (W ++ P) ((P.length : Int) - up) = wD ng (W ++ P) sc := by
     unfold xT; rw [if_neg (by omega), show ((P.length : Int) - up).toNat = sc by omega]
    rw [hL]
    have hmd := qRQ (G := G) ng (W ++ P) sc (by omega) (by omega)
    rw [hsc] at hmd
    refine AW.skip ?_
    refine rgn [.nilp, .tup [(wD ng (W ++ P) sc).1.enc, .int .i64 (wD ng (W ++ P) sc).2]] [[], [], [], [2, 77], [], [], [], [2, 3]] ?_
    iterate 8 refine op1 tok ?_ (hv := by first | with_reducible exact True.intro | (exact hmd; done) | omega | simp | (simp +contextual; omega))
    refine qA ?_
    exact AW.ret ⟨.inr rfl, _, _, by (conv => lhs; simp), trivial, by simp⟩
theorem qWI (d : Dc) (hd : zC d = true) : AFn Tryz.prog G 69 [d.enc] (.str (qCR d)) := by
 refine AFn.introU tok Tryz.func69 (by kernel_rfl) rfl rfl ?_
 simp only [Tryz.f69, qK, List.map_cons, List.map_nil]
 have hb := qPY hd
 have hzl : (zU (d.scale.toNat + 1 - d.digits.length)).length = d.scale.toNat + 1 - d.digits.length := by simp [zU]
 have hpl : (qBC d).length = d.scale.toNat + 1 - d.digits.length + d.digits.length := by simp [qBC, zU]
 have hP : qCR d = (if d.neg = true then [45] else []) ++ (if d.scale = 0 then qBC d else (qBC d).take ((qBC d).length - d.scale.toNat) ++ 46 :: (qBC d).drop ((qBC d).length - d.scale.toNat)) := rfl
 have hpad : zU (d.scale.toNat + 1 - d.digits.length) ++ d.digits = qBC d := rfl
 rw [hP]
 have hz := qSU (G := G) (d.scale - d.digits.length + 1) (by omega)
 rw [show (d.scale - (d.digits.length : Int) + 1).toNat = d.scale.toNat + 1 - d.digits.length by omega] at hz
 refine rgn [] [[], [1]] ?_
 iterate 2 refine op1 tok ?_
 refine qA ?_
 refine rgn [] [[], [], [1, 3]] ?_
 iterate 3 refine op1 tok ?_
 refine qA ?_
 refine AW.join (α := Unit) (fun _ => True) (fun a => ⟨qW 44 [(1, .ptr 1 0), (3, .p (.str (qBC d)))], [], [(1, .vars 26 [.p (.bool d.neg), .p (.str d.digits), .p (.int .i64 d.scale)])], 0⟩) ?_ ?_
 ·
  refine rgn [] [[], [], [], [], [1, 3, 10]] ?_
  iterate 5 refine op1 tok ?_
  refine qA ?_
  refine cnd ?_ ?_
  ·intro h10
   try simp at h10
   refine rgz [.nilp, .str (zU (d.scale.toNat + 1 - d.digits.length))] [[], [], [], [], [1, 3, 15], [], [], [], [1, 19], [1, 3]] ?_
   iterate 10 refine op1 tok ?_ (hv := by first | with_reducible exact True.intro | (first | exact hz | omega; done) | omega | simp | (simp +contextual; omega))
   refine qA ?_
   exact ⟨(), trivial, qB (by simp [hpad]), rfl, by simp [hpad], by simp [hpad]⟩
  ·intro h10
   try simp at h10
   have hnp : qBC d = d.digits := by unfold qBC; rw [show d.scale.toNat + 1 - d.digits.length = 0 by omega]; rfl
   refine AW.skip ?_
   exact ⟨(), trivial, qB (by simp [hnp]), rfl, by simp [hnp], by simp [hnp]⟩
 ·
  rintro a hI
  have hk : ((qBC d).length - d.scale).toNat = (qBC d).length - d.scale.toNat := by omega
  generalize qBC d = pd at *
  refine AW.seq ?_
  refine rgn [] [[], [], [1, 3, 22]] ?_
  iterate 3 refine op1 tok ?_
  refine qA ?_
  refine cnd ?_ ?_
  ·intro h22
   try simp at h22
   refine AW.runDrawK tok mixed [1, 3] 16 [[3], [3], [24], [1], [26], [25, 27], [23, 28], [29], [3], [3], [32], [1], [34], [33, 35], [31, 36], [30, 37]] [] [] (by kernel_rfl) (by intro C; conv => lhs; simp) (by omega) (by simp [Sm.sum, Sm.foot, Sm.tch, Sm.refs]; kernel_rfl) (by intro C; conv => lhs; simp) (by first | with_reducible exact True.intro | omega | simp | (simp +contextual; omega)) ?_
   refine AW.seq ?_
   refine rgn [] [[], [3, 40]] ?_
   iterate 2 refine op1 tok ?_
   refine qA ?_
   refine cnd ?_ ?_
   ·intro h40
    try simp at h40
    refine rgn [] [[], [], [2]] ?_
    iterate 3 refine op1 tok ?_
    refine qA ?_
    exact AW.ret ⟨.inr rfl, _, _, by (conv => lhs; simp), trivial, by simp [show ¬ d.scale = 0 by omega, h40, hk]⟩
   ·intro h40
    try simp at h40
    refine AW.skip ?_
    refine rgn [] [[], [2]] ?_
    iterate 2 refine op1 tok ?_
    refine qA ?_
    exact AW.ret ⟨.inr rfl, _, _, by (conv => lhs; simp), trivial, by simp [show ¬ d.scale = 0 by omega, h40, hk]⟩
  ·intro h22
   try simp at h22
   refine AW.skip ?_
   refine AW.seq ?_
   refine rgn [] [[], [3, 40]] ?_
   iterate 2 refine op1 tok ?_
   refine qA ?_
   refine cnd ?_ ?_
   ·intro h40
    try simp at h40
    refine rgn [] [[], [], [2]] ?_
    iterate 3 refine op1 tok ?_
    refine qA ?_
    exact AW.ret ⟨.inr rfl, _, _, by (conv => lhs; simp), trivial, by simp [show d.scale = 0 by omega, h40]⟩
   ·intro h40
    try simp at h40
    refine AW.skip ?_
    refine rgn [] [[], [2]] ?_
    iterate 2 refine op1 tok ?_
    refine qA ?_
    exact AW.ret ⟨.inr rfl, _, _, by (conv => lhs; simp), trivial, by simp [show d.scale = 0 by omega, h40]⟩
def bldA (u : Bool) : V := if u then .ptr 2 0 else .p .nilp
def qDC (u : Bool) (bs : List UInt8) : List (Nat × Box) := [(2, .vars 163 [bldA u, .ms 3]), (3, .row 5 1 (qQ bs))]
theorem qWE : (Tryz.prog.info? 163).map (·.size) = some 2 := by kernel_rfl
theorem bld_lies : liesAt Tryz.prog Tryz.prog.depth 163 (2 / Tryz.prog.cellsOf 163) 0 163 1 = true := by kernel_rfl
section
set_option maxHeartbeats 1000000 in
theorem cc_used (b : Nat) (w : World) (h0 : w.cell? ⟨b, 0, none⟩ = some (.pointer (some ⟨b, 0, none⟩))) :
  Calls Tryz.prog 204 #[.pointer (some ⟨b, 0, none⟩)] w fun e w' => e = .returned (.tuple #[]) ∧ w' = w := by
 obtain ⟨j, hj, _⟩ := Option.map_eq_some_iff.1 qWE
 go_enter Tryz.func204, Tryz.ntmps204
 go_wp2
 rw [Lib.run_neq_ptr_same w _ Tryz.underlying161 hj]
 go_wp2
 go_end0
 exact ⟨rfl, rfl⟩
set_option maxHeartbeats 1000000 in
theorem cc_fresh (b : Nat) (w : World) (h0 : w.cell? ⟨b, 0, none⟩ = some (.pointer none)) (hsh : w.shape? b = some (163, 2)) (hfz : w.frozen? ⟨b, 0, none⟩ = false) :
  Calls Tryz.prog 204 #[.pointer (some ⟨b, 0, none⟩)] w fun e w' => e = .returned (.tuple #[]) ∧ w' = w.setCell ⟨b, 0, none⟩ (.pointer (some ⟨b, 0, none⟩)) := by
 obtain ⟨j, hj, hjs⟩ := Option.map_eq_some_iff.1 qWE
 go_enter Tryz.func204, Tryz.ntmps204
 go_wp2
 rw [Lib.run_to_unsafe w ⟨b, 0, none⟩ Tryz.underlying161 Tryz.underlying232 hj (by rw [hjs]; decide) hsh (Nat.zero_lt_succ 1)]
 simp only [Result.andThen]
 rw [Oper.upon_value]
 go_wp2
 rw [run_callFunc_extern Tryz.func228 (by kernel_rfl) (by kernel_rfl) (by kernel_rfl) (e := Extern.AbiNoEscape.same) (by kernel_rfl)]
 rw [Lib.run_noEscape]
 simp only [Result.andThen]
 rw [Oper.upon_value]
 go_wp2
 rw [Lib.run_from_unsafe w ⟨b, 0, none⟩ Tryz.underlying232 Tryz.underlying161 hj hsh bld_lies]
 simp only [Result.andThen]
 rw [Oper.upon_value]
 go_wp2
 go_end0
 exact ⟨rfl, rfl⟩
end
theorem qHD (u : Bool) (bs : List UInt8) : AX Tryz.prog G 204 [.ptr 2 0] (qDC u bs) (.tuple []) [2, 3] (qDC true bs) := by
 refine ⟨vL Tryz.func204 (by kernel_rfl) rfl, fun M μ w vs hg rel => ?_⟩
 obtain ⟨l⟩ := vs
 have hsz : l.length = 1 := by simpa using rel.slots.1
 match l, hsz with
 | [v], _ =>
 have hv := rel.slots.2 0 v (.ptr 2 0) rfl rfl
 cases hv with
 | @ptr _ _ b hb =>
 have hbx := rel.box 2 (.vars 163 [bldA u, .ms 3]) (by simp [qDC])
 cases hbx with
 | @vars _ _ b' arr h0 hh hs ho hc =>
 rw [hb] at h0; cases h0
 obtain ⟨x, y, rfl⟩ : ∃ x y, arr = #[x, y] := by
  obtain ⟨l⟩ := arr
  match l, hs with
  | [x, y], _ => exact ⟨x, y, rfl⟩
 have hx := hc 0 x (bldA u) rfl rfl
 have hy := hc 1 y (.ms 3) rfl rfl
 have hfin : ∀ w', Rel ⟨w.heap.size, w, M, μ, wW μ (qDC u bs)⟩ M μ ⟨[.ptr 2 0], (qDC u bs).map (·.1), qDC true bs, 0⟩ #[.pointer (some ⟨b, 0, none⟩)] w' →
   ∃ v M' μ', (Ending.returned (.tuple #[]) : Ending) = .returned v ∧ Rel ⟨w.heap.size, w, M, μ, wW μ (qDC u bs)⟩ M' μ' ⟨[.tuple []], [2, 3], qDC true bs, 0⟩ #[v] w' := by
  intro w' r
  refine ⟨_, M, μ, rfl, { r with slots := ⟨rfl, fun i u x hu hx => ?_⟩, pins := fun _ _ => rfl }⟩
  cases i with
  | zero => simp at hu hx; subst hu; subst hx; exact .tuple rfl fun i u x hu => by simp at hu
  | succ i => simp at hx
 cases u with
 | true =>
  obtain rfl : x = .pointer (some ⟨b, 0, none⟩) := by
   cases hx with
   | ptr h => rw [hb] at h; cases h; rfl
  refine (cc_used b w (by rw [zG hh]; rfl)).mono ?_
  rintro e w' ⟨rfl, rfl⟩
  exact hfin _ rel
 | false =>
  obtain rfl : x = .pointer none := by
   cases hx with
   | p h => cases h; rfl
  refine (cc_fresh b w (by rw [zG hh]; rfl) (by simp [World.shape?, hh]) (by simp [World.frozen?, hh])).mono ?_
  rintro e w' ⟨rfl, rfl⟩
  refine hfin _ ?_
  have ht : Turned w (w.setCell ⟨b, 0, none⟩ (.pointer (some ⟨b, 0, none⟩))) b :=
   ⟨rfl, rfl, rfl, by simp [World.setCell], fun k hk => RowKit.Below.heap_setCell w ⟨b, 0, none⟩ _ k hk⟩
  have := rel.write (id := 2) (bx := .vars 163 [bldA true, .ms 3]) (by simp [qO, qDC]) hb ht (.vars (arr := #[.pointer (some ⟨b, 0, none⟩), y]) hb (by simp only [World.setCell, Array.getElem?_modify, if_pos, hh]; simp) rfl (fun i u hu => ?_) (fun i u x hu hx => ?_))
  ·simpa [qDC, zR] using this
  ·match i, hu with
   | 0, hu => simp at hu; subst hu; rfl
   | 1, hu => exact ho 1 u (by simpa using hu)
   | i + 2, hu => simp at hu
  ·match i, hu, hx with
   | 0, hu, hx => simp at hu hx; subst hu; subst hx; exact .ptr hb
   | 1, hu, hx => simp at hu hx; subst hu; subst hx; exact hy
   | i + 2, hu, hx => simp at hu
theorem ccF_ax (bs : List UInt8) : AX Tryz.prog G 204 [.ptr 2 0] [(2, .vars 163 [.p .nilp, .ms 3]), (3, .row 5 1 (qQ bs))] (.tuple []) [2, 3] [(2, .vars 163 [.ptr 2 0, .ms 3]), (3, .row 5 1 (qQ bs))] := qHD false bs
theorem cc_ax (bs : List UInt8) : AX Tryz.prog G 204 [.ptr 2 0] [(2, .vars 163 [.ptr 2 0, .ms 3]), (3, .row 5 1 (qQ bs))] (.tuple []) [2, 3] [(2, .vars 163 [.ptr 2 0, .ms 3]), (3, .row 5 1 (qQ bs))] := qHD true bs
open Go.Shelf Go.RowKit
section
variable {P : Program} {ρ : Ren}
abbrev qNU (g : Nat) (w w' : World) : Prop := Kept (fun k => k = g ∨ w.heap.size ≤ k) w w'
theorem qIC (g : Nat) (w : World) : qNU g w w.drew := ⟨rfl, rfl, rfl, Nat.le_refl _, fun _ _ => rfl⟩
theorem qUQ (g : Nat) (w : World) (n : Nat) : qNU g w (w.drew.freeze ⟨g, 0, none⟩ n) := by
 unfold World.freeze
 split
 ·exact qIC g w
 ·exact ⟨rfl, rfl, rfl, by simp only [Array.size_modify]; exact Nat.le_refl _, fun k hk => by
   simp only [Array.getElem?_modify]
   rw [if_neg (by omega)]; rfl⟩
theorem qLR (g : Nat) (w : World) (o : Obj) : qNU g w (w.alloc o).drew := ⟨rfl, rfl, rfl, by show w.heap.size ≤ (w.heap.push o).size; simp, fun k hk => by
 show (w.heap.push o)[k]? = _
 rw [Array.getElem?_push, if_neg (by omega)]⟩
theorem qUR (g : Nat) (w : World) (o : Obj) : qNU g w (w.drew.alloc o) := qLR g w o
set_option maxHeartbeats 1000000 in
theorem bld_row (L : Lays.n169 P ρ) (X : Builder.Extra P ρ) (b g cap : Nat) (p : Value) (cur : Array Value) (l : List UInt8) (w : World) (hbk : w.heap[b]? = some (.cells #[p, .slice (some ⟨g, 0, none⟩) l.length cap] (ρ.t 72) (0, 0)))
  (hg : w.heap[g]? = some (.cells cur (ρ.t 5) (0, 0))) (hnc : l.length ≤ cap) (hcm : cap ≤ maxLen) (hcs : cur.size = cap) (hcells : ∀ (j : Nat) (x : UInt8), l[j]? = some x → cur[j]? = some (Value.int .u8 x.toNat)) (h0 : l ≠ []) :
  Calls P (ρ.f 169) #[.pointer (some ⟨b, 0, none⟩)] w fun e w' => e = .returned (.string ⟨l.toArray⟩) ∧ qNU g w w' := by
 have hl0 : l.length ≠ 0 := by simpa using h0
 have c1 : w.drew.cell? ⟨b, 1, none⟩ = some (.slice (some ⟨g, 0, none⟩) l.length cap) := by
  have : w.drew.heap[b]? = some (.cells #[p, .slice (some ⟨g, 0, none⟩) l.length cap] (ρ.t 72) (0, 0)) := hbk
  rw [Lib.cell_of_heap this]; rfl
 have hSD : (Builtin.unsafeSliceData_ #[(ρ.t 37)] (ρ.t 127) #[.slice (some ⟨g, 0, none⟩) l.length cap]).run P w.drew = .ok (.pointer (some ⟨g, 0, none⟩)) w.drew :=
  Lib.run_unsafeSliceData_row _ _ _ _ _ _ (by omega)
 have hUS : (Builtin.unsafeString_ #[(ρ.t 127), (ρ.t 3)] (ρ.t 9) #[.pointer (some ⟨g, 0, none⟩), .int .i64 l.length]).run P w.drew = .ok (.string ⟨l.toArray⟩) (w.drew.freeze ⟨g, 0, none⟩ l.length) := by
  refine Lib.run_unsafeString_row w.drew (ρ.t 127) (ρ.t 3) (ρ.t 9) (ρ.t 5) L.t127 X.cellsByte g cur.size (by have hg' : w.drew.heap[g]? = some (.cells cur (ρ.t 5) (0, 0)) := hg; simp [World.shape?, hg']) l h0 (by omega) (by unfold maxLen at hcm; omega) ?_
  intro j x hx
  have hg' : w.drew.heap[g]? = some (.cells cur (ρ.t 5) (0, 0)) := hg
  rw [jD, Nat.zero_add, Lib.cell_of_heap hg']
  exact hcells j x hx
 have mixed := L.mixed
 have t72 := L.t72; have a72 := L.a72; have z72 := L.z72; have v72 := L.v72; have u72 := run_underlying L.t72
 have t70 := L.t70; have a70 := L.a70; have z70 := L.z70; have v70 := L.v70; have u70 := run_underlying L.t70
 have t37 := L.t37; have a37 := L.a37; have z37 := L.z37; have v37 := L.v37; have u37 := run_underlying L.t37
 have t127 := L.t127; have a127 := L.a127; have z127 := L.z127; have v127 := L.v127; have u127 := run_underlying L.t127
 have t3 := L.t3; have a3 := L.a3; have z3 := L.z3; have v3 := L.v3; have u3 := run_underlying L.t3
 have t9 := L.t9; have a9 := L.a9; have z9 := L.z9; have v9 := L.v9; have u9 := run_underlying L.t9
 have t5 := X.t5; have a5 := X.a5; have z5 := X.z5; have v5 := X.v5; have u5 := run_underlying X.t5
 go_enter L.f169, Body.n169_ntmps ρ
 go_wp2
 go_region_o
 all_goals (go_wp2; go_ret; exact ⟨rfl, qUQ g w _⟩)
set_option maxHeartbeats 2000000 in
theorem bld_nil (L : Lays.n169 P ρ) (X : Builder.Extra P ρ) (b : Nat) (p : Value) (w : World) (hbk : w.heap[b]? = some (.cells #[p, .slice none 0 0] (ρ.t 72) (0, 0))) :
  Calls P (ρ.f 169) #[.pointer (some ⟨b, 0, none⟩)] w fun e w' => e = .returned (.string ⟨#[]⟩) ∧ qNU w.heap.size w w' := by
 have hUS := Any.unsafeString_none L X
 have c1 : w.drew.cell? ⟨b, 1, none⟩ = some (.slice none 0 0) := by
  have : w.drew.heap[b]? = some (.cells #[p, .slice none 0 0] (ρ.t 72) (0, 0)) := hbk
  rw [Lib.cell_of_heap this]; rfl
 have hSD : (Builtin.unsafeSliceData_ #[(ρ.t 37)] (ρ.t 127) #[.slice none 0 0]).run P w.drew = .ok (.pointer none) w.drew := rfl
 have mixed := L.mixed
 have t72 := L.t72; have a72 := L.a72; have z72 := L.z72; have v72 := L.v72; have u72 := run_underlying L.t72
 have t70 := L.t70; have a70 := L.a70; have z70 := L.z70; have v70 := L.v70; have u70 := run_underlying L.t70
 have t37 := L.t37; have a37 := L.a37; have z37 := L.z37; have v37 := L.v37; have u37 := run_underlying L.t37
 have t127 := L.t127; have a127 := L.a127; have z127 := L.z127; have v127 := L.v127; have u127 := run_underlying L.t127
 have t3 := L.t3; have a3 := L.a3; have z3 := L.z3; have v3 := L.v3; have u3 := run_underlying L.t3
 have t9 := L.t9; have a9 := L.a9; have z9 := L.z9; have v9 := L.v9; have u9 := run_underlying L.t9
 have t5 := X.t5; have a5 := X.a5; have z5 := X.z5; have v5 := X.v5; have u5 := run_underlying X.t5
 go_enter L.f169, Body.n169_ntmps ρ
 go_wp2
 go_region_o
 all_goals (go_wp2; go_ret; exact ⟨rfl, qIC _ w⟩)
set_option maxHeartbeats 2000000 in
theorem bld_none (L : Lays.n169 P ρ) (X : Builder.Extra P ρ) (b g : Nat) (p : Value) (cur : Array Value) (w : World) (hlt : b < w.heap.size) (hbk : w.heap[b]? = some (.cells #[p, .slice (some ⟨g, 0, none⟩) 0 0] (ρ.t 72) (0, 0))) (hg : w.heap[g]? = some (.cells cur (ρ.t 5) (0, 0))) :
  Calls P (ρ.f 169) #[.pointer (some ⟨b, 0, none⟩)] w fun e w' => e = .returned (.string ⟨#[]⟩) ∧ qNU g w w' := by
 have hUS := Any.unsafeString_none L X
 have c1 : w.drew.cell? ⟨b, 1, none⟩ = some (.slice (some ⟨g, 0, none⟩) 0 0) := by
  have : w.drew.heap[b]? = some (.cells #[p, .slice (some ⟨g, 0, none⟩) 0 0] (ρ.t 72) (0, 0)) := hbk
  rw [Lib.cell_of_heap this]; rfl
 have hSD : (Builtin.unsafeSliceData_ #[(ρ.t 37)] (ρ.t 127) #[.slice (some ⟨g, 0, none⟩) 0 0]).run P w.drew = .ok (.pointer (some ⟨w.drew.heap.size, 0, none⟩)) (w.drew.alloc (.view ⟨g, 0, none⟩ (ρ.t 5))) :=
  Lib.run_unsafeSliceData_zero w.drew _ _ (ρ.t 5) L.t127 ⟨g, 0, none⟩ 0 ((ρ.t 5), cur.size) (by have hg' : w.drew.heap[g]? = some (.cells cur (ρ.t 5) (0, 0)) := hg; simp [World.shape?, hg'])
 have c2 : (w.drew.alloc (.view ⟨g, 0, none⟩ (ρ.t 5))).cell? ⟨b, 1, none⟩ = some (.slice (some ⟨g, 0, none⟩) 0 0) := by
  have : (w.drew.alloc (.view ⟨g, 0, none⟩ (ρ.t 5))).heap[b]? = _ := (Lib.alloc_old w.drew _ b hlt).trans hbk
  rw [Lib.cell_of_heap this]; rfl
 have c3 : (w.alloc (.view ⟨g, 0, none⟩ (ρ.t 5))).drew.cell? ⟨b, 1, none⟩ = some (.slice (some ⟨g, 0, none⟩) 0 0) := c2
 have c0 : w.cell? ⟨b, 1, none⟩ = some (.slice (some ⟨g, 0, none⟩) 0 0) := c1
 have mixed := L.mixed
 have t72 := L.t72; have a72 := L.a72; have z72 := L.z72; have v72 := L.v72; have u72 := run_underlying L.t72
 have t70 := L.t70; have a70 := L.a70; have z70 := L.z70; have v70 := L.v70; have u70 := run_underlying L.t70
 have t37 := L.t37; have a37 := L.a37; have z37 := L.z37; have v37 := L.v37; have u37 := run_underlying L.t37
 have t127 := L.t127; have a127 := L.a127; have z127 := L.z127; have v127 := L.v127; have u127 := run_underlying L.t127
 have t3 := L.t3; have a3 := L.a3; have z3 := L.z3; have v3 := L.v3; have u3 := run_underlying L.t3
 have t9 := L.t9; have a9 := L.a9; have z9 := L.z9; have v9 := L.v9; have u9 := run_underlying L.t9
 have t5 := X.t5; have a5 := X.a5; have z5 := X.z5; have v5 := X.v5; have u5 := run_underlying X.t5
 go_enter L.f169, Body.n169_ntmps ρ
 go_wp2
 go_region_o
 all_goals (go_wp2; go_ret; first | exact ⟨rfl, qLR g w _⟩ | exact ⟨rfl, qUR g w _⟩)
set_option maxHeartbeats 2000000 in
theorem bld_room (L : Lays.n169 P ρ) (X : Builder.Extra P ρ) (b g cap : Nat) (p : Value) (w : World) (hc0 : cap ≠ 0) (hbk : w.heap[b]? = some (.cells #[p, .slice (some ⟨g, 0, none⟩) 0 cap] (ρ.t 72) (0, 0))) :
  Calls P (ρ.f 169) #[.pointer (some ⟨b, 0, none⟩)] w fun e w' => e = .returned (.string ⟨#[]⟩) ∧ qNU g w w' := by
 have hUS := Any.unsafeString_none L X
 have c1 : w.drew.cell? ⟨b, 1, none⟩ = some (.slice (some ⟨g, 0, none⟩) 0 cap) := by
  have : w.drew.heap[b]? = some (.cells #[p, .slice (some ⟨g, 0, none⟩) 0 cap] (ρ.t 72) (0, 0)) := hbk
  rw [Lib.cell_of_heap this]; rfl
 have hSD : (Builtin.unsafeSliceData_ #[(ρ.t 37)] (ρ.t 127) #[.slice (some ⟨g, 0, none⟩) 0 cap]).run P w.drew = .ok (.pointer (some ⟨g, 0, none⟩)) w.drew :=
  Lib.run_unsafeSliceData_row _ _ _ _ _ _ hc0
 clear hc0
 have mixed := L.mixed
 have t72 := L.t72; have a72 := L.a72; have z72 := L.z72; have v72 := L.v72; have u72 := run_underlying L.t72
 have t70 := L.t70; have a70 := L.a70; have z70 := L.z70; have v70 := L.v70; have u70 := run_underlying L.t70
 have t37 := L.t37; have a37 := L.a37; have z37 := L.z37; have v37 := L.v37; have u37 := run_underlying L.t37
 have t127 := L.t127; have a127 := L.a127; have z127 := L.z127; have v127 := L.v127; have u127 := run_underlying L.t127
 have t3 := L.t3; have a3 := L.a3; have z3 := L.z3; have v3 := L.v3; have u3 := run_underlying L.t3
 have t9 := L.t9; have a9 := L.a9; have z9 := L.z9; have v9 := L.v9; have u9 := run_underlying L.t9
 have t5 := X.t5; have a5 := X.a5; have z5 := X.z5; have v5 := X.v5; have u5 := run_underlying X.t5
 go_enter L.f169, Body.n169_ntmps ρ
 go_wp2
 go_region_o
 all_goals (go_wp2; go_ret; exact ⟨rfl, qIC _ w⟩)
end
theorem qCP : Builder.Extra Tryz.prog Tryz.lays169_ren where
 sizeBuilder := by kernel_rfl
 liesBuilder := by kernel_rfl
 t5 := Tryz.underlying5
 a5 := Tryz.isAgg5
 z5 := Tryz.sizeOf5
 v5 := Tryz.zeroValue5
 infoByte := by kernel_rfl
 cellsByte := by kernel_rfl
 sizeByte := by kernel_rfl
 neB5 := by decide
theorem qNS (u : Bool) (bs : List UInt8) : AX Tryz.prog G 157 [.ptr 2 0] (qDC u bs) (.p (.str bs)) [] [] := by
 refine ⟨vL Tryz.func157 (by kernel_rfl) rfl, fun M μ w vs hg rel => ?_⟩
 obtain ⟨l⟩ := vs
 have hsz : l.length = 1 := by simpa using rel.slots.1
 match l, hsz with
 | [v], _ =>
 have hv := rel.slots.2 0 v (.ptr 2 0) rfl rfl
 cases hv with
 | @ptr _ _ b hb =>
 have hbx := rel.box 2 (.vars 163 [bldA u, .ms 3]) (by simp [qDC])
 cases hbx with
 | @vars _ _ b' arr h0 hh hs ho hc =>
 rw [hb] at h0; cases h0
 obtain ⟨x, y, rfl⟩ : ∃ x y, arr = #[x, y] := by
  obtain ⟨l⟩ := arr
  match l, hs with
  | [x, y], _ => exact ⟨x, y, rfl⟩
 have hy := hc 1 y (.ms 3) rfl rfl
 have hblt : b < w.heap.size := (Array.getElem?_eq_some_iff.1 hh).1
 have hfin : ∀ (g : Nat) (w' : World), (g < w.heap.size → wW μ (qDC u bs) g ∧ ∀ o, M g o = none) → bs.length ≤ maxLen → qNU g w w' →
   ∃ v M' μ', (Ending.returned (.string ⟨bs.toArray⟩) : Ending) = .returned v ∧ Rel ⟨w.heap.size, w, M, μ, wW μ (qDC u bs)⟩ M' μ' ⟨[.p (.str bs)], [], [], 0⟩ #[v] w' := by
  intro g w' hl hm hk
  refine ⟨_, M, μ, rfl, ?_⟩
  have hko : ∀ k, k < w.heap.size → k ≠ g → w'.heap[k]? = w.heap[k]? := fun k h1 h2 => hk.block k (by omega)
  refine ⟨fun b o v hv => ?_, fun _ _ _ h => h, fun _ _ _ => rfl, ⟨rfl, fun i u x hu hx => ?_⟩, fun _ h => (by cases h), fun _ _ h => (by cases h), by simp, fun _ _ _ h => by simp [qO] at h, fun _ _ h => by simp [qO] at h, hk.size, ?_⟩
  ·have h1 := rel.mem b o v hv
   have hlt := kQ h1
   exact (World.cell?_of_block (w := w) (hko b hlt (by rintro rfl; rw [(hl hlt).2 o] at hv; cases hv))).trans h1
  ·cases i with
   | zero => simp at hu hx; subst hu; subst hx; exact .p (.str (by simp) hm)
   | succ i => simp at hx
  ·refine ⟨hk.os, hk.tape, hk.output, hk.size, fun k h => ?_⟩
   have h1 : k < w.heap.size := Nat.not_le.1 fun h' => h (.inl h')
   exact hko k h1 (by rintro rfl; exact h (.inr (hl h1).1))
 have hrow := rel.box 3 (.row 5 1 (qQ bs)) (by simp [qDC])
 have key : ∃ g, (g < w.heap.size → wW μ (qDC u bs) g ∧ ∀ o, M g o = none) ∧ bs.length ≤ maxLen ∧ Calls Tryz.prog 157 #[.pointer (some ⟨b, 0, none⟩)] w fun e w' => e = .returned (.string ⟨bs.toArray⟩) ∧ qNU g w w' := by
  rcases hrow.cells with ⟨he, hn, hval⟩ | ⟨g, cap, cur, hg0, hval, hgh, hcs, hlc, hcm, hone, hro⟩
  ·obtain rfl : bs = [] := by simpa [qQ] using he
   have hy' : y = .slice none 0 0 := by cases hy with | ms h _ => rw [h, hval]
   subst hy'
   exact ⟨w.heap.size, fun h => absurd h (Nat.lt_irrefl _), by simp, bld_nil Tryz.lays169 qCP b x w hh⟩
  ·have hy' : y = .slice (some ⟨g, 0, none⟩) bs.length cap := by cases hy with | ms h _ => rw [h, hval]; simp [qQ]
   subst hy'
   have hown := rel.own 3 g (by simp [qO, qDC]) hg0
   refine ⟨g, fun h => ⟨⟨3, by simp [qO, qDC], hg0⟩, hown.2.2⟩, by simp [qQ] at hlc; omega, ?_⟩
   by_cases hbs : bs = []
   ·subst hbs
    by_cases hc0 : cap = 0
    ·subst hc0; exact bld_none Tryz.lays169 qCP b g x cur w hblt hh hgh
    ·exact bld_room Tryz.lays169 qCP b g cap x w hc0 hh
   ·refine bld_row Tryz.lays169 qCP b g cap x cur bs w hh hgh (by simpa [qQ] using hlc) hcm (by simpa using hcs) (fun j z hz => ?_) hbs
    have hjl := (List.getElem?_eq_some_iff.1 hz).1
    have hj : j < cur.size := by rw [hcs]; simp [qQ] at hlc; omega
    have := hro.get j (.int .u8 z.toNat) 0 (.int .u8 z.toNat) cur[j] (by simp [qQ, hz]) rfl (by simp [qQ, List.getElem?_take, hjl, hj])
    rw [Array.getElem?_eq_getElem hj]
    generalize cur[j] = q at this
    cases this
    rfl
 obtain ⟨g, h1, h2, h3⟩ := key
 refine h3.mono ?_
 rintro e w' ⟨rfl, hk⟩
 exact hfin g w' h1 h2 hk
theorem String_ax (bs : List UInt8) : AX Tryz.prog G 157 [.ptr 2 0] [(2, .vars 163 [.ptr 2 0, .ms 3]), (3, .row 5 1 (qQ bs))] (.p (.str bs)) [] [] := qNS true bs
@[simp] theorem bytesP_app (a s : List UInt8) : qQ (a ++ s) = qQ a ++ s.map fun b => .int .u8 b.toNat := by simp [qQ]
theorem qNT (bs : List UInt8) (c : UInt8) (hb : bs.length ≤ 100000000000) : AX Tryz.prog G 158 [.ptr 2 0, .p (.int .u8 c.toNat)] [(2, .vars 163 [.p .nilp, .ms 3]), (3, .row 5 1 (qQ bs))] (.dead) [2] [(2, .vars 163 [.ptr 2 0, .ms 3]), (3, .row 5 1 (qQ (bs ++ [c])))] := by
 refine AX.introU tok 900 Tryz.func158 (by kernel_rfl) rfl rfl ?_
 simp only [Tryz.f158, qK, List.map_cons, List.map_nil]
 refine rgn [] [[0, 1]] ?_
 refine op1 tok ?_
 refine qA ?_
 refine rgn [] [[]] ?_
 refine op1 tok ?_
 refine qV ?_
 refine qE.stepK [0, 1] (wY rfl (ccF_ax bs) (by simp)) (by conv => lhs; simp) rfl ?_
 refine qE.nil ?_
 refine rgn [.int .u8 c.toNat] [[], [], [], [], [1, 7, 11], [], [], [7, 14], [], [], [17]] ?_
 iterate 11 refine op1 tok ?_
 refine qA ?_
 refine rgn [] [[]] ?_
 refine op1 tok ?_
 refine qA ?_
 exact AW.ret ⟨.inr rfl, _, _, by (conv => lhs; simp), trivial, by simp, by simp, by simp, by simp⟩
theorem qSP (bs : List UInt8) (c : UInt8) (hb : bs.length ≤ 100000000000) : AX Tryz.prog G 158 [.ptr 2 0, .p (.int .u8 c.toNat)] [(2, .vars 163 [.ptr 2 0, .ms 3]), (3, .row 5 1 (qQ bs))] (.dead) [2] [(2, .vars 163 [.ptr 2 0, .ms 3]), (3, .row 5 1 (qQ (bs ++ [c])))] := by
 refine AX.introU tok 900 Tryz.func158 (by kernel_rfl) rfl rfl ?_
 simp only [Tryz.f158, qK, List.map_cons, List.map_nil]
 refine rgn [] [[0, 1]] ?_
 refine op1 tok ?_
 refine qA ?_
 refine rgn [] [[]] ?_
 refine op1 tok ?_
 refine qV ?_
 refine qE.stepK [0, 1] (wY rfl (cc_ax bs) (by simp)) (by conv => lhs; simp) rfl ?_
 refine qE.nil ?_
 refine rgn [.int .u8 c.toNat] [[], [], [], [], [1, 7, 11], [], [], [7, 14], [], [], [17]] ?_
 iterate 11 refine op1 tok ?_
 refine qA ?_
 refine rgn [] [[]] ?_
 refine op1 tok ?_
 refine qA ?_
 exact AW.ret ⟨.inr rfl, _, _, by (conv => lhs; simp), trivial, by simp, by simp, by simp, by simp⟩
@[simp] theorem bytesP_nil : qQ [] = [] := rfl
theorem hexV_lt {c : UInt8} {n : Nat} (h : qMF c = some n) : n < 16 := by
 unfold qMF at h
 have h0 := c.toNat_lt
 split at h
 ·rename_i h1; cases h; rw [UInt8.le_iff_toNat_le, UInt8.le_iff_toNat_le] at h1; simp at h1; omega
 ·split at h
  ·rename_i h1; cases h; rw [UInt8.le_iff_toNat_le, UInt8.le_iff_toNat_le] at h1; simp at h1; omega
  ·split at h
   ·rename_i h1; cases h; rw [UInt8.le_iff_toNat_le, UInt8.le_iff_toNat_le] at h1; simp at h1; omega
   ·cases h
def qVH : List UInt8 := [34, 92, 47, 98, 102, 110, 114, 116]
def escV : List UInt8 := [34, 92, 47, 8, 12, 10, 13, 9]
theorem esc_all : ∀ k : Fin 256, if (uR (UInt8.ofNat k.val)).isSome = true then 0 ≤ Lib.indexByte qVH (UInt8.ofNat k.val) ∧ (Lib.indexByte qVH (UInt8.ofNat k.val)).toNat < 8 ∧ escV[(Lib.indexByte qVH (UInt8.ofNat k.val)).toNat]? = some (UInt8.ofNat ((uR (UInt8.ofNat k.val)).getD 0)) ∧ (uR (UInt8.ofNat k.val)).getD 0 < 256 else Lib.indexByte qVH (UInt8.ofNat k.val) = -1 := by decide +kernel
theorem esc_at (c : UInt8) : if (uR c).isSome = true then 0 ≤ Lib.indexByte qVH c ∧ (Lib.indexByte qVH c).toNat < 8 ∧ escV[(Lib.indexByte qVH c).toNat]? = some (UInt8.ofNat ((uR c).getD 0)) ∧ (uR c).getD 0 < 256 else Lib.indexByte qVH c = -1 := by
 have := esc_all ⟨c.toNat, c.toNat_lt⟩
 simpa only [UInt8.ofNat_toNat] using this
theorem qRV : ∀ (l : List UInt8) (x n : Nat), qMG l x = some n → n < (x + 1) * 16 ^ l.length
 | [], x, n, h => by simp [qMG] at h; subst h; simp
 | c :: l, x, n, h => by
  simp only [qMG] at h
  split at h
  ·cases h
  ·rename_i k hk
   have h1 := qRV l _ n h
   have h2 := hexV_lt hk
   rw [List.length_cons, Nat.pow_succ]
   calc n < (16 * x + k + 1) * 16 ^ l.length := h1
    _ ≤ (16 * (x + 1)) * 16 ^ l.length := Nat.mul_le_mul_right _ (by omega)
    _ = (x + 1) * (16 ^ l.length * 16) := by rw [Nat.mul_comm 16, Nat.mul_assoc, Nat.mul_comm 16]
theorem unitL_lt (s : List UInt8) : (jE s).getD 0 < 65536 := by
 cases h : jE s with
 | none => simp
 | some n =>
  unfold jE at h
  split at h
  ·cases h
  ·have h1 := qRV _ _ _ h
   have h2 : ((s.drop 2).take 4).length ≤ 4 := by simp; omega
   have h3 : 16 ^ ((s.drop 2).take 4).length ≤ 16 ^ 4 := Nat.pow_le_pow_right (by omega) h2
   simp only [Option.getD_some]; omega
theorem escG_ok {s : List UInt8} (h : (xS s).2.2 = true) : (xS s).1 ≤ 1114111 ∧ ((xS s).1 < 55296 ∨ 57343 < (xS s).1) ∧ 2 ≤ (xS s).2.1 ∧ (xS s).2.1 ≤ 12 := by
 match s with
 | [] => simp [xS] at h
 | [a] => simp [xS] at h
 | a :: c :: t =>
  have hat := esc_at c
  have h1 := unitL_lt (a :: c :: t)
  unfold xS at h ⊢
  cases hv : uR c with
  | some v =>
   simp only [hv, Option.isSome_some, if_true, Option.getD_some] at hat h ⊢
   omega
  | none =>
   simp only [hv] at h ⊢
   unfold qNM at h ⊢
   generalize jE (a :: c :: t) = A at *
   generalize jE ((a :: c :: t).drop 6) = B at *
   generalize A.getD 0 = x at *
   generalize B.getD 0 = y at *
   by_cases hc : A.isSome = false ∨ x / 1024 ≠ 54
   ·rw [if_pos hc] at h ⊢
    simp only [Bool.and_eq_true, decide_eq_true_eq] at h
    have h54 : x / 1024 ≠ 54 := hc.resolve_left (fun e => by rw [h.1] at e; cases e)
    simp only
    omega
   ·rw [if_neg hc] at h ⊢
    simp only
    omega
theorem enc_len (r : Int) : 1 ≤ (Lib.encodeRune r).length ∧ (Lib.encodeRune r).length ≤ 4 := by
 have := Lib.encodeRuneZ_length r
 simpa only [Lib.encodeRune, List.length_map] using this
theorem qKT : ∀ l : List UInt8, xG l ≤ l.length
 | [] => Nat.le_refl _
 | [b] => by simp only [xG]; split <;> (try split) <;> simp
 | b :: c :: u => by
  have h1 := qKT u
  have h2 := qKT (c :: u)
  simp only [xG, List.length_cons] at h2 ⊢
  split
  ·omega
  ·split
   ·omega
   ·omega
theorem qKS (l : List UInt8) : qDF l ≤ l.length := by
 unfold qDF
 split
 ·omega
 ·rename_i h
  have h1 := qKT (l.drop 1)
  have h2 := List.length_pos_iff.2 h
  rw [List.length_drop] at h1; omega
theorem skipG_q (t : List UInt8) : xG (34 :: t) = 1 := by unfold xG; simp
theorem skipG_e : xG [92] = 1 := by unfold xG; simp
theorem skipG_b (d : UInt8) (u : List UInt8) : xG (92 :: d :: u) = 2 + xG u := by rw [xG]; simp
theorem skipG_o {c : UInt8} (h1 : c ≠ 34) (h2 : c ≠ 92) (t : List UInt8) : xG (c :: t) = 1 + xG t := by
 cases t <;> (rw [xG]; simp [h1, h2, xG])
def qBV (s : List UInt8) (i : Nat) : Nat := if i ≤ s.length then i + xG (s.drop i) else s.length
theorem qTU {s : List UInt8} {i : Nat} {c : UInt8} (h : s[i]? = some c) : qBV s i = if c = 34 then i + 1 else if c = 92 then qBV s (i + 2) else qBV s (i + 1) := by
 have hi := (List.getElem?_eq_some_iff.1 h).1
 have hd : s.drop i = c :: s.drop (i + 1) := by
  rw [List.drop_eq_getElem_cons hi]; congr 1
  have := List.getElem?_eq_getElem hi
  rw [h] at this; exact (Option.some.inj this).symm
 unfold qBV
 rw [if_pos (by omega), hd]
 by_cases h1 : c = 34
 ·rw [if_pos h1, h1, skipG_q]
 ·rw [if_neg h1]
  by_cases h2 : c = 92
  ·rw [if_pos h2]
   by_cases h3 : i + 2 ≤ s.length
   ·obtain ⟨d, u, hu⟩ : ∃ d u, s.drop (i + 1) = d :: u := by
     cases h4 : s.drop (i + 1) with
     | nil => have := congrArg List.length h4; simp at this; omega
     | cons d u => exact ⟨d, u, rfl⟩
    have hu2 : s.drop (i + 2) = u := by rw [show i + 2 = (i + 1) + 1 by omega, ← List.drop_drop, hu]; rfl
    rw [if_pos h3, hu2, hu, h2, skipG_b]; omega
   ·have hu : s.drop (i + 1) = [] := List.drop_of_length_le (by omega)
    rw [if_neg h3, hu, h2, skipG_e]
    have : s.length = i + 1 := by have := congrArg List.length hu; simp at this; omega
    omega
  ·rw [if_neg h2, if_pos (by omega), skipG_o h1 h2]; omega
theorem qWZ (s : List UInt8) : qDF s = qBV s 1 := by
 unfold qDF qBV
 split
 ·rename_i h; subst h; rfl
 ·rename_i h; have := List.length_pos_iff.2 h; rw [if_pos (by omega)]
theorem qOC {s : List UInt8} (h : (jE s).isSome = true) : 6 ≤ s.length := by
 unfold jE at h
 split at h
 ·cases h
 ·omega
theorem escG_len {s : List UInt8} (h : (xS s).2.2 = true) : (xS s).2.1 ≤ s.length := by
 match s with
 | [] => simp [xS] at h
 | [a] => simp [xS] at h
 | a :: c :: t =>
  have h1 := qOC (s := a :: c :: t)
  have h2 := qOC (s := (a :: c :: t).drop 6)
  unfold xS at h ⊢
  cases hv : uR c with
  | some v => simp only [hv]; simp
  | none =>
   simp only [hv] at h ⊢
   unfold qNM at h ⊢
   generalize jE (a :: c :: t) = A at *
   generalize jE ((a :: c :: t).drop 6) = B at *
   split at h
   ·rename_i hc
    rw [if_pos hc]
    simp only [Bool.and_eq_true] at h
    exact h1 h.1
   ·rename_i hc
    rw [if_neg hc]
    simp only [Bool.and_eq_true] at h
    have := h2 h.1
    rw [List.length_drop] at this
    simp only; omega
theorem qHQ : ∀ (f : Nat) (s : List UInt8) (k : Nat) (out : List UInt8), ((xQ f s k out).2.2 = 0 ∧ (xQ f s k out).2.1 ≤ k + s.length) ∨ (((xQ f s k out).2.2 = 3 ∨ (xQ f s k out).2.2 = 6) ∧ (xQ f s k out).2.1 = 0)
 | 0, s, k, out => .inr (by simp [xQ])
 | f + 1, s, k, out => by
  simp only [xQ]
  split
  ·exact .inr (by simp)
  ·rename_i hne
   split
   ·split
    ·exact .inr (by simp)
    ·exact .inl ⟨rfl, by have := List.length_pos_iff.2 hne; simp only; omega⟩
   ·split
    ·exact .inr (by simp)
    ·split
     ·cases he : escL s with
      | none => exact .inr (by simp)
      | some cn =>
       obtain ⟨c, n⟩ := cn
       simp only
       have hn : n ≤ s.length := by
        unfold escL at he
        split at he
        ·rename_i h; cases he; exact escG_len h
        ·cases he
       have := qHQ f (s.drop n) (k + n) (out ++ Lib.encodeRune c)
       rw [List.length_drop] at this
       omega
     ·have hn := Lib.decodeL_le s hne
      have := qHQ f (s.drop (Lib.decodeL s).2) (k + (Lib.decodeL s).2) (out ++ Lib.encodeRune (Lib.decodeL s).1)
      rw [List.length_drop] at this
      omega
theorem qAN (s : List UInt8) : ((zK s).2.2 = 0 ∧ (zK s).2.1 ≤ s.length) ∨ (((zK s).2.2 = 3 ∨ (zK s).2.2 = 6) ∧ (zK s).2.1 = 0) := by
 unfold zK
 split
 ·rename_i h
  have := qHQ s.length (s.drop 1) 1 []
  rw [List.length_drop] at this
  have : 1 ≤ s.length := by cases s with
   | nil => simp at h
   | cons => simp
  omega
 ·exact .inr (by simp)
theorem qON (c : UInt8) (many : Nat) (st : RS) : (vC c many st).2.nodes = st.nodes := by
 unfold vC; simp only; split
 ·rfl
 ·split <;> simp
theorem qZM (c : UInt8) (many : Nat) (st : RS) (h : (vC c many st).2.bad = false) : st.bad = false := by
 unfold vC at h; simp only at h; split at h
 ·rename_i hb; rw [hb] at h; cases h
 ·rename_i hb; simpa using hb
theorem qGL (st : RS) : (qT st).1.nodes = st.nodes := by
 unfold qT qAG; split
 ·rfl
 ·split <;> rfl
theorem qXF (st : RS) (h : (qT st).1.bad = false) : st.bad = false := by
 unfold qT qAG at h; split at h
 ·exact h
 ·split at h
  ·exact h
  ·cases h
theorem qVT (st : RS) : (wR st).nodes = st.nodes := by
 unfold wR; split
 ·rfl
 ·simp
theorem qYU (st : RS) : (xA st).1.nodes = st.nodes := by
 unfold xA
 split
 ·rfl
 ·split
  ·rfl
  ·split
   ·rfl
   ·split
    ·exact qGL st
    ·split <;> rfl
theorem atom_bad (st : RS) (h : (xA st).1.bad = false) : st.bad = false := by
 unfold xA at h
 split at h
 ·exact h
 ·split at h
  ·exact h
  ·split at h
   ·exact h
   ·split at h
    ·exact qXF st h
    ·split at h
     ·simp only [kJ, Bool.or_eq_false_iff] at h; exact h.1
     ·cases h
theorem lens2 : ∀ n : Nat, (∀ st d, (yM n st d).1.bad = false → st.bad = false ∧ (yM n st d).1.nodes + (yM n st d).1.left.length ≤ st.nodes + st.left.length) ∧
  (∀ st d many vs, (uZ n st d many vs).1.bad = false → st.bad = false ∧ (uZ n st d many vs).1.nodes + (uZ n st d many vs).1.left.length ≤ st.nodes + st.left.length) ∧
  (∀ st d many ks vs, (uY n st d many ks vs).1.bad = false → st.bad = false ∧ (uY n st d many ks vs).1.nodes + (uY n st d many ks vs).1.left.length ≤ st.nodes + st.left.length)
 | 0 => ⟨fun st d h => by simp [yM] at h, fun st d many vs h => by simp [uZ] at h, fun st d many ks vs h => by simp [uY] at h⟩
 | n + 1 => by
  obtain ⟨ih1, ih2, ih3⟩ := lens2 n
  refine ⟨fun st d => ?_, fun st d many vs => ?_, fun st d many ks vs => ?_⟩
  ·have he := qVJ st d
   have hen : (zM st d).nodes = st.nodes + 1 := rfl
   have heb : (zM st d).bad = st.bad := rfl
   have ht : yQ (zM st d).left = (zM st d).left := uH _
   simp only [yM]
   split
   ·rename_i h
    have h1 := wK h
    have h2 := qIV [93] (zZ (zM st d) 1)
    have h5 := qTJ [93] (zZ (zM st d) 1)
    have h6 := tk_bad [93] (zZ (zM st d) 1)
    simp only [zZ, List.length_drop, List.length_cons, List.length_nil] at h1 h2 h5 h6
    split
    ·simp only [zZ]; intro hb; exact ⟨by rw [← heb, ← h6]; exact hb, by omega⟩
    ·have h3 := ih2 (tk [93] (zZ (zM st d) 1)).2 (d + 1) 1 []
     simp only [zZ] at h3 ⊢
     intro hb
     obtain ⟨h7, h8⟩ := h3 hb
     exact ⟨by rw [← heb, ← h6]; exact h7, by omega⟩
   ·split
    ·rename_i h
     have h1 := wK h
     have h2 := qIV [125] (zZ (zM st d) 1)
     have h5 := qTJ [125] (zZ (zM st d) 1)
     have h6 := tk_bad [125] (zZ (zM st d) 1)
     simp only [zZ, List.length_drop, List.length_cons, List.length_nil] at h1 h2 h5 h6
     split
     ·simp only [zZ]; intro hb; exact ⟨by rw [← heb, ← h6]; exact hb, by omega⟩
     ·have h3 := ih3 (tk [125] (zZ (zM st d) 1)).2 (d + 1) 1 [] []
      simp only [zZ] at h3 ⊢
      intro hb
      obtain ⟨h7, h8⟩ := h3 hb
      exact ⟨by rw [← heb, ← h6]; exact h7, by omega⟩
    ·have h1 := atom_lt (zM st d) ht
     have h2 := qYU (zM st d)
     intro hb
     have := h1.2 hb
     exact ⟨heb ▸ atom_bad _ hb, by omega⟩
  ·simp only [uZ]
   split
   ·rename_i hb; intro h; simp only at h; rw [h] at hb; cases hb
   ·rename_i hb
    have hb' : st.bad = false := by simpa using hb
    have h1 := ih1 st d
    have h2 := qRA 93 many (yM n st d).1
    have h3 := qON 93 many (yM n st d).1
    have h4 := qZM 93 many (yM n st d).1
    split
    ·simp only; intro h; have := h1 (h4 h); exact ⟨hb', by omega⟩
    ·intro h
     obtain ⟨h5, h6⟩ := ih2 (vC 93 many (yM n st d).1).2 d (many + 1) (vs ++ [(yM n st d).2]) h
     have := h1 (h4 h5); exact ⟨hb', by omega⟩
  ·simp only [uY]
   split
   ·rename_i hb; intro h; simp only at h; rw [h] at hb; cases hb
   ·rename_i hb
    have hb' : st.bad = false := by simpa using hb
    have h1 := qHZ st
    have h1' := qGL st
    have h2 := qVU (qT st).1
    have h2' := qVT (qT st).1
    have h3 := ih1 (wR (qT st).1) d
    generalize hA : (if (wR (qT st).1).bad = true then (wR (qT st).1, ks, vs) else ((yM n (wR (qT st).1) d).1, xR ks vs (qT st).2 (yM n (wR (qT st).1) d).2)) = A
    have h4 : A.1.bad = false → A.1.nodes + A.1.left.length ≤ st.nodes + st.left.length := by
     rw [← hA]; split
     ·rename_i h; intro h'; simp only at h'; rw [h] at h'; cases h'
     ·intro h'; have := (h3 h').2; simp only; omega
    have h5 := qRA 125 many A.1
    have h6 := qON 125 many A.1
    have h7 := qZM 125 many A.1
    split
    ·simp only; intro h; have := h4 (h7 h); exact ⟨hb', by omega⟩
    ·intro h
     obtain ⟨h8, h9⟩ := ih3 (vC 125 many A.1).2 d (many + 1) A.2.1 A.2.2 h
     have := h4 (h7 h8); exact ⟨hb', by omega⟩
def lstM (n : Nat) (st : RS) (d : Nat) : RS × List Val := if (tk [93] st).1 = true then ((tk [93] st).2, []) else uZ n (tk [93] st).2 d 1 []
theorem qUV (n : Nat) (st : RS) (d many : Nat) (vs : List Val) : uZ (n + 1) st d many vs = if st.bad = true then (st, vs) else if (vC 93 many (yM n st d).1).1 = true then ((vC 93 many (yM n st d).1).2, vs ++ [(yM n st d).2]) else uZ n (vC 93 many (yM n st d).1).2 d (many + 1) (vs ++ [(yM n st d).2]) := by
 simp only [uZ]
def idxT (ks : List (List UInt8)) (s : List UInt8) : Int := if s ∈ ks then (ks.idxOf s : Int) else -1
theorem idxT_ax (l : List (List UInt8)) (s : List UInt8) : AX Tryz.prog G 137 [.ms 3, .p (.str s)] [(3, .row 9 1 (l.map PD.str))] (.p (.int .i64 (idxT l s))) [3] [(3, .row 9 1 (l.map PD.str))] := by
 refine AX.introU tok 900 Tryz.func137 (by kernel_rfl) rfl rfl ?_
 simp only [Tryz.f137, qK, List.map_cons, List.map_nil]
 refine rgn [] [[0, 1]] ?_
 refine op1 tok ?_
 refine qA ?_
 refine AW.seq ?_
 refine rgn [] [[], [], [0, 1, 7, 8]] ?_
 iterate 3 refine op1 tok ?_
 refine qA ?_
 refine AW.block ?_
 refine AW.intFactU (i := 7) rfl (by decide) ?_; intro hlen; simp at hlen
 refine AW.loop (α := Nat) (fun k => k ≤ l.length ∧ s ∉ l.take k) (fun k => ⟨qW 19 [(0, .ms 3), (1, .p (.str s)), (7, .p (.int .i64 l.length)), (8, .p (.int .i64 k))], [3], [(3, .row 9 1 (l.map PD.str))], 900⟩) (fun k => l.length - k) (0) ⟨by omega, by simp⟩ ⟨qB (by simp), rfl, by simp, by simp⟩ ?_
 rintro k ⟨hk, hno⟩
 refine rgn [] [[]] ?_
 refine op1 tok ?_
 refine qA ?_
 refine AW.seq ?_
 refine cnd ?_ ?_
 ·intro h9
  try simp at h9
  obtain ⟨x, hx⟩ : ∃ x, l[k]? = some x := ⟨l[k], by simp [h9]⟩
  refine AW.skip ?_
  refine AW.seq ?_
  refine AW.block ?_
  refine rgn [] [[], [0, 1, 5, 7, 8]] ?_
  iterate 2 refine op1 tok ?_
  refine qA ?_
  refine rgn [.str x] [[], [], [], [], [], [0, 1, 5, 7, 8, 16]] ?_
  iterate 6 refine op1 tok ?_ (hv := by first | with_reducible exact True.intro | (simp [hx]; done) | omega | simp | (simp +contextual; omega))
  refine qA ?_
  refine cnd ?_ ?_
  ·intro h16
   try simp at h16
   have hR : idxT l s = k := by
    have hm : s ∈ l := by rw [h16]; exact List.mem_of_getElem? hx
    unfold idxT; rw [if_pos hm]
    have : l.idxOf s = k := by
     obtain ⟨h1, h2⟩ := List.getElem?_eq_some_iff.1 hx
     have h3 := List.take_append_drop k l
     rw [← h3, List.idxOf_append, if_neg hno, List.drop_eq_getElem_cons h1, h2, h16, List.idxOf_cons_self]
     simp; omega
    rw [this]
   refine rgn [] [[], [4]] ?_
   iterate 2 refine op1 tok ?_
   refine qA ?_
   exact AW.ret ⟨.inr rfl, _, _, by (conv => lhs; simp), trivial, by simp [hR], by simp, by simp, by simp⟩
  ·intro h16
   try simp at h16
   refine AW.skip ?_
   refine rgz [] [[], [0, 1, 7, 8]] ?_
   iterate 2 refine op1 tok ?_
   refine qA ?_
   exact ⟨k + 1, ⟨by omega, by rw [List.take_add_one, hx]; simp; exact ⟨hno, h16⟩⟩, by omega, qB (by simp), rfl, by simp, by simp⟩
 ·intro h9
  try simp at h9
  have hR : idxT l s = -1 := by rw [List.take_of_length_le h9] at hno; unfold idxT; rw [if_neg hno]
  refine AW.exit ?_
  simp
  refine rgn [] [[]] ?_
  refine op1 tok ?_
  refine qA ?_
  exact AW.ret ⟨.inr rfl, _, _, by (conv => lhs; simp), trivial, by simp [hR], by simp, by simp, by simp⟩
def objM (n : Nat) (st : RS) (d : Nat) : RS × List (List UInt8) × List Val := if (tk [125] st).1 = true then ((tk [125] st).2, [], []) else uY n (tk [125] st).2 d 1 [] []
theorem qRH {ks : List (List UInt8)} {vs : List Val} (h : ks.length = vs.length) (key : List UInt8) (v : Val) : (xR ks vs key v).1.length = (xR ks vs key v).2.length ∧ vs.length ≤ (xR ks vs key v).2.length ∧ (xR ks vs key v).2.length ≤ vs.length + 1 := by
 unfold xR; split
 ·simp [h]
 ·simp [h]
end Go.Proofs.YtdojfdaglbphlaaGreatDoor
