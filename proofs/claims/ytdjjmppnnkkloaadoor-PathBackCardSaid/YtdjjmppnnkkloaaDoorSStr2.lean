import Derived.Test.YtdjjmppnnkkloaaDoorSStr1
namespace Go.Proofs.YtdjjmppnnkkloaaDoor
open Sy Go
set_option maxRecDepth 100000
set_option linter.unusedSimpArgs false
set_option linter.unusedVariables false
variable {G : Glob}

def asF (cs : List UInt8) (i : Nat) : Bool := cs.any fun b => b.toNat == i
theorem asF_snoc (cs : List UInt8) (c : UInt8) (n : Nat) : rowP n (fun k => decide (k = c.toNat) || asF cs k) = rowP n (asF (cs ++ [c])) := rowP_congr fun i _ => by
  by_cases h : i = c.toNat
  · simp [asF, h]
  · simp [asF, h, Ne.symm h]

def asS (cs : List UInt8) (a : Nat) : St := ⟨[.p (.str cs), .dead, .ptr 2 0, .dead, .p (.int .i64 a)] ++ List.replicate 16 .dead, [], [(2, .vars 79 (pcells (rowP 256 (asF (cs.take a)))))], 0⟩
theorem makeASCIISet_ev (cs : List UInt8) (hcs : ∀ b ∈ cs, b.toNat < 128) : AFn Tryd.prog G 45 [.str cs] (.tup [.agg (rowP 256 (asF cs)), .bool true]) := by
  refine AFn.intro tok Tryd.func45 (by kernel_rfl) rfl ?_
  simp only [Tryd.f45, St.start]
  refine AW.strFact (i := 0) rfl ?_
  intro hlen
  refine AW.seqRun tok [] (by intro C; conv => lhs; simp) (by simp) ?_ -- r0 {}
  refine AW.seq ?_
  refine AW.seqRun tok [] (by intro C; conv => lhs; simp) trivial ?_ -- r1 {}
  refine AW.block ?_
  -- LOOP
  refine AW.loop (α := Nat) (fun a => a ≤ cs.length) (fun a => asS cs a) (fun a => cs.length - a) 0 (by omega) ⟨by simp [asS], rfl, by simp [asS, reps_row]; rfl, by simp [asS]⟩ ?_
  intro a hI
  simp only [asS]
  refine AW.seq ?_
  refine AW.seqRun tok [] (by intro C; conv => lhs; simp) trivial ?_ -- r2 {}
  refine AW.cond (c := .tmp 9) (by conv => lhs; simp) trivial ?_ ?_
  · intro h1
    simp at h1
    obtain ⟨c, hc⟩ : ∃ c, cs[a]? = some c := ⟨cs[a], by simp [h1]⟩
    have hclt := hcs c (List.mem_of_getElem? hc)
    have hst : asF (cs.take (a + 1)) = asF (cs.take a ++ [c]) := by rw [List.take_add_one, hc]; rfl
    refine AW.skip ?_
    refine AW.seq ?_
    refine AW.block ?_
    refine AW.seqRun tok [.int .u8 c.toNat] (by intro C; conv => lhs; simp) (by simp [hc]) ?_ -- r4 {t14:sidx}
    refine AW.seq ?_
    refine AW.seqRun tok [] (by intro C; conv => lhs; simp) trivial ?_ -- r5 {}
    refine AW.cond (c := .tmp 16) (by conv => lhs; simp) trivial ?_ ?_
    · intro h2
      simp at h2
      omega
    · intro h2
      simp at h2
      refine AW.skip ?_
      refine AW.run tok [] (by intro C; conv => lhs; simp) (by omega) ?_ -- r7 {t19:index; storerow e0 e1}
      refine AW.run tok [] (by intro C; conv => lhs; simp) (by omega) ?_ -- r3 {}
      exact ⟨a + 1, by omega, by omega, by simp [asS], rfl, by simp [asS, hst]; exact congrArg pcells (asF_snoc _ _ _).symm, by simp [asS]⟩ -- END OF ROUND
  · intro h1
    simp at h1
    have hall : cs.take a = cs := List.take_of_length_le h1
    rw [hall]
    refine AW.exit ?_ -- exit 0
    simp
    refine AW.seqRun tok [] (by intro C; conv => lhs; simp) (by simp) ?_ -- r8 {}
    exact AW.ret ⟨.inr rfl, _, _, by (conv => lhs; simp), by simp, by simp⟩

theorem contains_ev (F : Nat → Bool) (n : Int) (h0 : 0 ≤ n) (h1 : n < 256) : AX Tryd.prog G 54 [.ptr 5 0, .p (.int .u8 n)] [(5, .vars 79 (pcells (rowP 256 F)))] (.p (.bool (F n.toNat))) [5] [(5, .vars 79 (pcells (rowP 256 F)))] := by
  refine AX.intro tok 2000 Tryd.func54 (by kernel_rfl) rfl ?_
  simp only [Tryd.f54, St.startX]
  refine AW.seqRun tok [] (by intro C; conv => lhs; simp) trivial ?_ -- r0 {}
  refine AW.seqRun tok [.bool (F n.toNat)] (by intro C; conv => lhs; simp) (by simp [rowP_get (show n.toNat < 256 by omega)]; omega) ?_ -- r1 {t8:index; t9:load}
  exact AW.ret ⟨.inr rfl, _, _, by (conv => lhs; simp), trivial, by simp, by simp, by simp, by simp⟩

def trimL (F : Nat → Bool) (s : List UInt8) : List UInt8 := s.dropWhile fun b => F b.toNat
def trimR (F : Nat → Bool) (s : List UInt8) : List UInt8 := (s.reverse.dropWhile fun b => F b.toNat).reverse
def tlS (r : List UInt8) (F : Nat → Bool) : St := ⟨[.p (.str r), .ptr 5 0] ++ List.replicate 14 .dead, [5], [(5, .vars 79 (pcells (rowP 256 F)))], 1000⟩
theorem trimLeftASCII_ev (F : Nat → Bool) (s : List UInt8) : AX Tryd.prog G 46 [.p (.str s), .ptr 5 0] [(5, .vars 79 (pcells (rowP 256 F)))] (.p (.str (trimL F s))) [5] [(5, .vars 79 (pcells (rowP 256 F)))] := by
  refine AX.intro tok 1000 Tryd.func46 (by kernel_rfl) rfl ?_
  simp only [Tryd.f46, St.startX]
  refine AW.seqRun tok [] (by intro C; conv => lhs; simp) trivial ?_ -- r0 {}
  refine AW.seq ?_
  refine AW.block ?_
  -- LOOP
  refine AW.loop (α := List UInt8) (fun r => trimL F r = trimL F s) (fun r => tlS r F) (fun r => r.length) s rfl ⟨by simp [tlS], rfl, by simp [tlS], by simp [tlS]⟩ ?_
  intro r hI
  simp only [tlS]
  refine AW.seq ?_
  refine AW.seqRun tok [] (by intro C; conv => lhs; simp) trivial ?_ -- r1 {}
  refine AW.cond (c := .tmp 7) (by conv => lhs; simp) trivial ?_ ?_
  · intro h1
    simp at h1
    obtain ⟨b, r, rfl⟩ : ∃ b r', r = b :: r' := by
      cases r with
      | nil => simp at h1
      | cons b r => exact ⟨b, r, rfl⟩
    have hb : b.toNat < 256 := b.toNat_lt
    refine AW.skip ?_
    refine AW.block ?_
    refine AW.seq ?_
    refine AW.seqRunX tok 3 [.int .u8 b.toNat] [] rfl rfl (by intro C; conv => lhs; simp) (by simp) (y_cx rfl (contains_ev F b.toNat (by omega) (by omega)) (by simp)) (by intro C; conv => lhs; simp) trivial ?_ -- r2 {t10:sidx; t11:CALL call f65(t8, t10) args,res}
    refine AW.cond (c := .tmp 12) (by conv => lhs; simp) trivial ?_ ?_
    · intro h2
      simp at h2
      refine AW.exit ?_ -- exit 0
      simp
      refine AW.seqRun tok [] (by intro C; conv => lhs; simp) trivial ?_ -- r4 {}
      exact AW.ret ⟨.inr rfl, _, _, by (conv => lhs; simp), trivial, by rw [← hI]; simp [trimL, h2], by simp, by simp, by simp⟩
    · intro h2
      simp at h2
      refine AW.skip ?_
      refine AW.run tok [] (by intro C; conv => lhs; simp) (by omega) ?_ -- r3 {}
      exact ⟨r, by rw [← hI]; simp [trimL, h2], by simp, by simp [tlS], rfl, by simp [tlS], by simp [tlS]⟩ -- END OF ROUND
  · intro h1
    simp at h1
    subst h1
    refine AW.exit ?_ -- exit 0
    simp
    refine AW.seqRun tok [] (by intro C; conv => lhs; simp) trivial ?_ -- r4 {}
    exact AW.ret ⟨.inr rfl, _, _, by (conv => lhs; simp), trivial, by rw [← hI]; simp [trimL], by simp, by simp, by simp⟩

theorem trimRightASCII_ev (F : Nat → Bool) (s : List UInt8) : AX Tryd.prog G 47 [.p (.str s), .ptr 5 0] [(5, .vars 79 (pcells (rowP 256 F)))] (.p (.str (trimR F s))) [5] [(5, .vars 79 (pcells (rowP 256 F)))] := by
  refine AX.intro tok 1000 Tryd.func47 (by kernel_rfl) rfl ?_
  simp only [Tryd.f47, St.startX]
  refine AW.strFact (i := 0) rfl ?_
  intro hlen
  refine AW.seqRun tok [] (by intro C; conv => lhs; simp) trivial ?_ -- r0 {}
  refine AW.seq ?_
  refine AW.block ?_
  -- LOOP
  refine AW.loop (α := List UInt8) (fun r => trimR F r = trimR F s ∧ r.length ≤ s.length) (fun r => ⟨[.p (.str r), .ptr 5 0] ++ List.replicate 20 .dead, [5], [(5, .vars 79 (pcells (rowP 256 F)))], 1000⟩) (fun r => r.length) s ⟨rfl, Nat.le_refl _⟩ ⟨by simp, rfl, by simp, by simp⟩ ?_
  rintro r ⟨hI, hrl⟩
  refine AW.seq ?_
  refine AW.seqRun tok [] (by intro C; conv => lhs; simp) trivial ?_ -- r1 {}
  refine AW.cond (c := .tmp 7) (by conv => lhs; simp) trivial ?_ ?_
  · intro h1
    simp at h1
    obtain ⟨r, b, rfl⟩ : ∃ r' b, r = r' ++ [b] := ⟨r.dropLast, r.getLast (by rintro rfl; simp at h1), (List.dropLast_concat_getLast _).symm⟩
    have hb : b.toNat < 256 := b.toNat_lt
    simp at hrl
    refine AW.skip ?_
    refine AW.block ?_
    refine AW.seq ?_
    refine AW.seqRunX tok 6 [.int .u8 b.toNat] [] rfl rfl (by intro C; conv => lhs; simp) (by omega) (y_cx rfl (contains_ev F b.toNat (by omega) (by omega)) (by simp)) (by intro C; conv => lhs; simp) trivial ?_ -- r2 {t13:sidx; t14:CALL call f65(t8, t13) args,res}
    refine AW.cond (c := .tmp 15) (by conv => lhs; simp) trivial ?_ ?_
    · intro h2
      simp at h2
      refine AW.exit ?_ -- exit 0
      simp
      refine AW.seqRun tok [] (by intro C; conv => lhs; simp) trivial ?_ -- r4 {}
      exact AW.ret ⟨.inr rfl, _, _, by (conv => lhs; simp), trivial, by rw [← hI]; simp [trimR, h2], by simp, by simp, by simp⟩
    · intro h2
      simp at h2
      refine AW.skip ?_
      refine AW.run tok [] (by intro C; conv => lhs; simp) (by omega) ?_ -- r3 {}
      exact ⟨r, ⟨by rw [← hI]; simp [trimR, h2], by omega⟩, by simp, by simp, rfl, by simp, by simp⟩ -- END OF ROUND
  · intro h1
    simp at h1
    subst h1
    refine AW.exit ?_ -- exit 0
    simp
    refine AW.seqRun tok [] (by intro C; conv => lhs; simp) trivial ?_ -- r4 {}
    exact AW.ret ⟨.inr rfl, _, _, by (conv => lhs; simp), trivial, by rw [← hI]; simp [trimR], by simp, by simp, by simp⟩

def trimM (s cs : List UInt8) : List UInt8 := trimL (asF cs) (trimR (asF cs) s)
theorem Trim_ev (s cs : List UInt8) (h2 : 2 ≤ cs.length) (hcs : ∀ b ∈ cs, b.toNat < 128) : AFn Tryd.prog G 33 [.str s, .str cs] (.str (trimM s cs)) := by
  refine AFn.intro tok Tryd.func33 (by kernel_rfl) rfl ?_
  simp only [Tryd.f33, St.start]
  have hne : cs ≠ [] := by rintro rfl; simp at h2
  refine AW.seqRun tok [] (by intro C; conv => lhs; simp) trivial ?_ -- r0 {}
  refine AW.seq ?_
  refine AW.seqRun tok [] (by intro C; conv => lhs; simp) (by simp +contextual) ?_ -- r1
  refine AW.cond (c := .tmp 12) (by conv => lhs; simp) trivial ?_ ?_
  · intro h3
    simp [hne] at h3
    subst h3
    refine AW.seqRun tok [] (by intro C; conv => lhs; simp) trivial ?_ -- r2
    exact AW.ret ⟨.inr rfl, _, _, by (conv => lhs; simp), trivial, by simp [trimM, trimL, trimR]⟩
  · intro h3
    simp [hne] at h3
    refine AW.skip ?_
    refine AW.seq ?_
    refine AW.seqRun tok [.int .u8 0] (by intro C; conv => lhs; simp) (by simp +contextual; omega) ?_ -- r3
    refine AW.cond (c := .tmp 21) (by conv => lhs; simp) trivial ?_ ?_
    · intro h4
      simp at h4
      omega
    · intro h4
      refine AW.skip ?_
      refine AW.seq ?_
      refine AW.seqRun tok [.tup [.str cs], .tup [.agg (rowP 256 (asF cs)), .bool true]] (by intro C; conv => lhs; simp) (by simp [makeASCIISet_ev cs hcs]) ?_ -- r5
      refine AW.seqRun tok [] (by intro C; conv => lhs; simp) trivial ?_ -- r6
      refine AW.cond (c := .tmp 34) (by conv => lhs; simp) trivial ?_ ?_
      · intro _
        refine AW.seq (AW.region (AOps.pref tok 1 [] (by intro C; conv => lhs; simp) trivial ?_))
        simp only [List.drop_succ_cons, List.drop_zero]
        refine AOps.step rfl (y_cx rfl (trimRightASCII_ev (asF cs) s) (by simp)) ?_
        refine AOps.step rfl (y_cx rfl (trimLeftASCII_ev (asF cs) (trimR (asF cs) s)) (by simp)) ?_
        refine AOps.all tok [] (by intro C; conv => lhs; simp) trivial ?_
        exact AW.ret ⟨.inr rfl, _, _, by (conv => lhs; simp), trivial, by simp [trimM]⟩
      · intro h; simp at h
end Go.Proofs.YtdjjmppnnkkloaaDoor
