import Derived.Test.YtdjjmppnnkkloaaGreatDoorSRef4B
import Derived.Test.YtdjjmppnnkkloaaGreatDoorSMayL
import Derived.Test.YtdjjmppnnkkloaaGreatDoorSUtf
import Derived.Test.YtdjjmppnnkkloaaGreatDoorSMayIn
namespace Go.Proofs.YtdjjmppnnkkloaaGreatDoor
open Sy Go
set_option linter.unusedSimpArgs false
set_option linter.unusedVariables false
set_option maxRecDepth 100000
theorem word_may (s : List UInt8) : wordT (wordM s) = true := by
 have hl := wordM_len s
 unfold wordT
 rw [valid_eq]
 have : validM (wordM s) = true := by
  unfold wordM
  split
  ·assumption
  ·decide +kernel
 rw [this]; simp; omega
theorem wordT_kays {n : Nat} (h : n ≤ 4096) (hv : validM (kays n) = true) : wordT (kays n) = true := by
 unfold wordT; rw [valid_eq, hv]; simp [kays]; omega
theorem kays_valid : ∀ n, n ≤ 9 → validM (kays n) = true := by decide +kernel
theorem namedS_may {l : List (List UInt8)} {i many : Nat} (hi : i ≤ l.length + many) (hm : many ≤ 8) : wordT (namedS l i) = true := by
 unfold namedS
 split
 ·exact word_may _
 ·exact wordT_kays (by omega) (kays_valid _ (by omega))
theorem namedGo_spec {l : List (List UInt8)} {many : Nat} (hm : many ≤ 8) : ∀ (f i : Nat) (out : List (List UInt8)), i + f = l.length + many + 1 → out.Nodup → (∀ s ∈ out, wordT s = true) → out.length ≤ many → (∀ t, 1 ≤ t → t + l.length ≤ i → kays t ∈ out) →
  (namedGo l many f i out).Nodup ∧ (∀ s ∈ namedGo l many f i out, wordT s = true) ∧ (namedGo l many f i out).length = many
 | 0, i, out, hf, _, _, h3, h4 => by
  have := kays_in (out := out) (n := many + 1) fun t h1 h2 => h4 t h1 (by omega)
  omega
 | f + 1, i, out, hf, h1, h2, h3, h4 => by
  simp only [namedGo]
  split
  ·rename_i hlt
   have hw := namedS_may (l := l) (i := i) (many := many) (by omega) hm
   have hk : ∀ t, 1 ≤ t → t + l.length ≤ i + 1 → kays t ∈ addM out (namedS l i) := by
    intro t h5 h6
    by_cases h7 : t + l.length ≤ i
    ·have := h4 t h5 h7
     unfold addM; split
     ·exact this
     ·simp [this]
    ·have : kays t = namedS l i := by simp only [namedS]; rw [dif_neg (by omega)]; congr 1; omega
     rw [this]; unfold addM; split
     ·assumption
     ·simp
   unfold addM at hk ⊢
   split at hk
   ·rename_i hin
    rw [if_pos hin]
    exact namedGo_spec hm f (i + 1) out (by omega) h1 h2 h3 hk
   ·rename_i hin
    rw [if_neg hin]
    refine namedGo_spec hm f (i + 1) (out ++ [namedS l i]) (by omega) ?_ (fun s hs => ?_) (by simp; omega) hk
    ·rw [List.nodup_append]
     exact ⟨h1, by simp, by intro a ha b hb; simp at hb; subst hb; rintro rfl; exact hin ha⟩
    ·rcases List.mem_append.1 hs with h | h
     ·exact h2 s h
     ·simp at h; rw [h]; exact hw
  ·exact ⟨h1, h2, by omega⟩
theorem namedM_may {l : List (List UInt8)} {many : Nat} (hm : many ≤ 8) : keysT (namedM l many) = true ∧ (namedM l many).length = many := by
 obtain ⟨h1, h2, h3⟩ := namedGo_spec (l := l) hm (l.length + many + 1) 0 [] (by omega) List.nodup_nil (by simp) (by simp) (by intro t h1 h2; omega)
 exact ⟨by unfold keysT; simp only [Bool.and_eq_true, List.all_eq_true, decide_eq_true_eq]; exact ⟨h2, h1⟩, h3⟩
theorem strip0_all {s : List UInt8} (h : s.all isDig = true) : (strip0 s).all isDig = true := by
 rw [List.all_eq_true] at h ⊢
 exact fun b hb => h b ((List.dropWhile_sublist _).subset hb)
theorem strip0_head {s : List UInt8} (h : strip0 s ≠ []) : byteAt (strip0 s) 0 ≠ 48 := by
 induction s with
 | nil => exact (h rfl).elim
 | cons b s ih =>
  by_cases hb : b = 48
  ·have e : strip0 (b :: s) = strip0 s := by simp [strip0, hb]
   rw [e] at h ⊢; exact ih h
  ·have e : strip0 (b :: s) = b :: s := by simp [strip0, hb]
   rw [e]
   intro h2
   simp [byteAt] at h2
   exact hb (UInt8.toNat_inj.1 (by show b.toNat = 48; omega))
theorem trail_spec : ∀ (k : Nat) (d : List UInt8), (∃ r, d = (trail d k).1 ++ r) ∧ ((trail d k).2 = 0 ∨ (trail d k).1.getLast? ≠ some 48)
 | 0, d => ⟨⟨[], by simp [trail]⟩, .inl rfl⟩
 | k + 1, d => by
  simp only [trail]
  split
  ·obtain ⟨⟨r, hr⟩, h2⟩ := trail_spec k d.dropLast
   refine ⟨⟨r ++ d.drop (d.length - 1), ?_⟩, h2⟩
   have e : d.dropLast ++ d.drop (d.length - 1) = d := by rw [List.dropLast_eq_take, List.take_append_drop]
   rw [← List.append_assoc, ← hr, e]
  ·rename_i h; exact ⟨⟨[], by simp⟩, .inr h⟩
theorem NormM_may {neg : Bool} {digits : List UInt8} {scale : Nat} (hd : digits.all isDig = true) (h : (NormM neg digits scale).2 = 0) : dcMay (NormM neg digits scale).1 = true := by
 unfold NormM at h ⊢
 simp only at h ⊢
 obtain ⟨⟨r, hr⟩, hl⟩ := trail_spec scale (strip0 digits)
 generalize trail (strip0 digits) scale = x at *
 split
 ·decide +kernel
 ·rename_i hne
  rw [if_neg hne] at h
  split
  ·rename_i hb; rw [if_pos hb] at h; simp at h
  ·rename_i hb
   have hpos : 0 < x.1.length := List.length_pos_iff.2 hne
   have hall : x.1.all isDig = true := by
    have := strip0_all hd
    rw [hr, List.all_append, Bool.and_eq_true] at this; exact this.1
   have hh : byteAt x.1 0 ≠ 48 := by
    have h1 := strip0_head (s := digits) (by rw [hr]; simp [hne])
    rw [hr] at h1
    obtain ⟨c, d, hx⟩ : ∃ c d, x.1 = c :: d := by
     cases hx : x.1 with
     | nil => exact (hne hx).elim
     | cons c d => exact ⟨c, d, rfl⟩
    rw [hx] at h1 ⊢
    simpa [byteAt] using h1
   rw [dcMay_yes (by simp only []; omega) hall]
   simp only
   rw [if_neg (by intro e; rw [e] at hh; exact hh rfl)]
   have hlast : x.2 = 0 ∨ byteAt x.1 (x.1.length - 1) ≠ 48 := hl.imp id fun h h2 => h ((byteAt_last hpos).1 h2)
   simp [hh]
   exact hlast
theorem zerosM_all (n : Nat) : (zerosM n).all isDig = true := List.all_eq_true.2 fun b hb => by rw [(List.mem_replicate.1 hb).2]; rfl
theorem lastM_may {neg : Bool} {digits : List UInt8} {sc : Int} (hd : digits.all isDig = true) (h : (lastM neg digits sc).2 = 0) : dcMay (lastM neg digits sc).1 = true := by
 unfold lastM at h ⊢
 split
 ·rename_i hs; rw [if_pos hs] at h; exact NormM_may (by rw [List.all_append, hd, zerosM_all]; rfl) h
 ·rename_i hs; rw [if_neg hs] at h; exact NormM_may hd h
theorem run_all (s : List UInt8) (k : Nat) : ((s.take (k + runM s k)).drop k).all isDig = true := by
 have e : (s.take (k + runM s k)).drop k = (s.drop k).takeWhile fun b => digitM b.toNat := by
  rw [List.drop_take, show k + runM s k - k = runM s k by omega]
  unfold runM
  have : ∀ (l : List UInt8) (p : UInt8 → Bool), l.take (l.takeWhile p).length = l.takeWhile p := by
   intro l p
   induction l with
   | nil => rfl
   | cons a l ih => rw [List.takeWhile_cons]; split
                    ·simp [ih]
                    ·rfl
  exact this _ _
 rw [e, List.all_eq_true]
 have : ∀ (l : List UInt8) (p : UInt8 → Bool) (b : UInt8), b ∈ l.takeWhile p → p b = true := by
  intro l p b
  induction l with
  | nil => intro h; simp at h
  | cons a l ih =>
   intro h
   rw [List.takeWhile_cons] at h
   split at h
   ·rename_i ha
    rcases List.mem_cons.1 h with rfl | h
    ·exact ha
    ·exact ih h
   ·simp at h
 exact fun b hb => this _ _ b hb
theorem restM_may {s : List UInt8} {neg : Bool} {digits : List UInt8} {scale : Nat} (hd : digits.all isDig = true) : ∀ o, (restM s neg digits scale o).2 = 0 → dcMay (restM s neg digits scale o).1 = true
 | none, h => by simp [restM, badDc] at h
 | some (k, up), h => by
  simp only [restM] at h ⊢
  split
  ·rename_i hk; rw [if_pos hk] at h; exact lastM_may hd h
  ·rename_i hk; rw [if_neg hk] at h; simp [badDc] at h
theorem ParseM_may {s : List UInt8} (h : (ParseM s).2 = 0) : dcMay (ParseM s).1 = true := by
 unfold ParseM at h ⊢
 split
 ·rename_i hb; rw [if_pos hb] at h; simp [badDc] at h
 ·rename_i hb
  rw [if_neg hb] at h
  have hd := run_all s (a0M s)
  revert h
  generalize (s.take (a0M s + runM s (a0M s))).drop (a0M s) = d0 at *
  generalize a0M s + runM s (a0M s) = k
  intro h
  unfold part2 at h ⊢
  split
  ·rename_i hp
   rw [if_pos hp] at h
   split
   ·rename_i hz; rw [if_pos hz] at h; simp [tailM, badDc] at h
   ·rename_i hz
    rw [if_neg hz] at h
    exact restM_may (by rw [List.all_append, hd, run_all]; rfl) _ h
  ·rename_i hp
   rw [if_neg hp] at h
   exact restM_may hd _ h
theorem numM_may (s : List UInt8) : dcMay (numM s) = true := by
 unfold numM
 split
 ·rename_i h; exact ParseM_may h
 ·decide +kernel
theorem itemKids_len (alone : List Val) (x : Item) : (itemKids alone x).length ≤ 8 := by
 have := low3_lt x.many
 unfold itemKids kidsN; split
 ·simp; omega
 ·simp
theorem itemKids_mem {alone : List Val} {x : Item} {k : Val} (h : k ∈ itemKids alone x) : k ∈ alone := by
 unfold itemKids at h; split at h
 ·exact List.mem_of_mem_drop h
 ·cases h
theorem itemV_may {alone : List Val} (x : Item) (ha : ∀ v ∈ alone, mayT v = true) : mayT (itemV alone x) = true := by
 have hk := low3_lt x.kind
 have hn := namedM_may (l := x.keys) (itemKids_len alone x)
 have hl := itemKids_len alone x
 have hkid : ¬ (low3 x.kind = 5 ∨ low3 x.kind = 6) → itemKids alone x = [] := fun h => by unfold itemKids; rw [if_neg h]
 have hmem := fun k (hk : k ∈ itemKids alone x) => ha k (itemKids_mem hk)
 unfold itemV
 generalize itemKids alone x = kids at *
 refine mayT_intro ?_ ?_ ?_ ?_ ?_ ?_ ?_ ?_ ?_ ?_ <;> simp only [Val.kind_mk, Val.num_mk, Val.text_mk, Val.keys_mk, Val.kids_mk, Val.code_mk]
 ·omega
 ·by_cases h : low3 x.kind = 7
  ·simp [h]
  ·simp [h]; omega
 ·intro h; rw [if_pos (by omega)]; exact numM_may _
 ·intro h; rw [if_neg (by omega)]
 ·intro h; rw [if_pos (by omega)]; exact word_may _
 ·intro h; rw [if_neg (by omega)]
 ·intro h; rw [if_pos (by omega)]; exact ⟨hn.2, hn.1⟩
 ·intro h; rw [if_neg (by omega)]
 ·by_cases h : low3 x.kind = 5 ∨ low3 x.kind = 6
  ·right; omega
  ·left; exact hkid h
 ·exact hmem
theorem built_may (l : List Item) : mayT (builtM l) = true := by
 have key : ∀ (l : List Item) (alone : List Val), (∀ v ∈ alone, mayT v = true) → ∀ v ∈ l.foldl itemM alone, mayT v = true := by
  intro l
  induction l with
  | nil => exact fun alone h => h
  | cons x l ih =>
   intro alone h
   refine ih _ fun v hv => ?_
   unfold itemM at hv
   rcases List.mem_append.1 hv with hv | hv
   ·unfold itemRest at hv; split at hv
    ·exact h v (List.mem_of_mem_take hv)
    ·exact h v hv
   ·simp at hv; rw [hv]; exact itemV_may x h
 unfold builtM
 rw [List.getLastD_eq_getLast?]
 cases hx : (aloneM l).getLast? with
 | none => decide +kernel
 | some v => exact key _ [] (by simp) v (List.mem_of_getLast? hx)
end Go.Proofs.YtdjjmppnnkkloaaGreatDoor
