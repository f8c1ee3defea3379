import Derived.Test.YtdlejiiiifhiiaaDoorM4
import Derived.Test.YtdlejiiiifhiiaaDoorM3
/-
  OUR OWN LAYER, 24: rows that are begun within a box.
-/
namespace Go.Proofs.YtdlejiiiifhiiaaDoor.Sy
open Go
section
variable {P : Program} {T : Tab} {G : Glob} {Q : Exit → St → Prop} {st st' : St}
theorem Turned.refl (w : World) (b : Nat) : Turned w w b := ⟨rfl, rfl, rfl, rfl, fun _ _ => rfl⟩
theorem Rel.beginBox {c : Ctx} {M : FMap} {μ : Mu} {st : St} {tmps : Array Value} {w : World} (r : Rel c M μ st tmps w) {id k j : Nat} {e : TypeId} {cells : List V} (hb : boxOf id st.H = some (.vars e cells)) (hj : cells[j]? = some .nilsl)
    (hf : st.fresh k = true) (e' : TypeId) (sz : Nat) : ∃ μ', Rel c M μ' { st with H := setBox id (.vars e (cells.set j (.ms k))) ((k, .row e' sz []) :: st.H) } tmps w := by
  have hm := boxOf_mem hb
  have hk : keyIn id st.H = true := keyIn_iff.2 ⟨_, hm⟩
  have hne : id ≠ k := by
    rintro rfl
    have := (St.fresh_spec hf).2.2.2
    rw [hk] at this; cases this
  have r1 := r.adopt (l := ⟨none, .slice none 0 0⟩) hf (fun b hb => by cases hb) (bx := .row e' sz []) (.rowN (by rw [upd_same]) (by rw [upd_same]))
  have hbx := r1.box id _ (List.mem_cons_of_mem _ hm)
  cases hbx with
  | @vars _ _ b arr h0 hh hs ho hc =>
  refine ⟨_, r1.write (id := id) (b := b) (w' := w) (bx := .vars e (cells.set j (.ms k))) (by simp [keyIn, hk]) h0 (Turned.refl w b) (.vars h0 hh (by simpa using hs) ho fun i u x hu hx => ?_)⟩
  rw [List.getElem?_set] at hx
  split at hx
  · rename_i hji
    subst hji
    split at hx
    · cases hx
      have := hc j u .nilsl hu hj
      cases this
      exact .ms (by rw [upd_same]) rfl
    · cases hx
  · exact hc i u x hu hx
theorem AW.beginBox {c : Code} (id k j : Nat) (e' : TypeId) (sz : Nat) {e : TypeId} {cells : List V} (hb : boxOf id st.H = some (.vars e cells)) (hj : cells[j]? = some .nilsl) (hf : st.fresh k = true)
    (h : ({ st with H := setBox id (.vars e (cells.set j (.ms k))) ((k, .row e' sz []) :: st.H) } : St) = st') (k : AW P G c Q st') : AW P G c Q st := fun x M μ tmps w hg r => by
  obtain ⟨μ', r'⟩ := r.beginBox hb hj hf e' sz
  exact k x M μ' tmps w hg (h ▸ r')
theorem AOpsO.beginBox {ops : Array Oper} {l : List Oper} {orc : List PD} (id k j : Nat) (e' : TypeId) (sz : Nat) {e : TypeId} {cells : List V} (hb : boxOf id st.H = some (.vars e cells)) (hj : cells[j]? = some .nilsl) (hf : st.fresh k = true)
    (h : ({ st with H := setBox id (.vars e (cells.set j (.ms k))) ((k, .row e' sz []) :: st.H) } : St) = st') (k : AOpsO P G ops Q l st' orc) : AOpsO P G ops Q l st orc := fun x M μ tmps w hg r => by
  obtain ⟨μ', r'⟩ := r.beginBox hb hj hf e' sz
  exact k x M μ' tmps w hg (h ▸ r')
/-- Fewer boxes are told to lie where they lay. -/
theorem AW.pinsTo {c : Code} (ps : List Nat) (hs : ∀ i ∈ ps, i ∈ st.pins) (h : ({ st with pins := ps } : St) = st') (k : AW P G c Q st') : AW P G c Q st := fun x M μ tmps w hg r =>
  k x M μ tmps w hg (h ▸ ⟨r.mem, r.ext, r.old, r.slots, fun i hi => r.pins i (hs i hi), r.box, r.nodup, r.inj, r.own, r.size, r.below⟩)
/-- An operation under a guard that is so, whose effect is told apart. -/
theorem AOpsO.stepKIf (ks : List Nat) (d : Nat) {orc : List PD} {ops : Array Oper} {o : Oper} {rest : List Oper} {x : V} {st1 : St} {j : Nat} {pol : Bool} (hgd : o.guard = some (j, pol)) (hd : (ops[j]?).bind (·.dst) = some d)
    (h : Yields P G o st x st1) (hb : decide (d < st.tmps.length) = true ∧ V.guards pol (st.tmps.getD d .dead) = some true) (hk : (st1.put o.dst (.when true x)).keep ks = st') (k : AOpsO P G ops Q rest st' orc) : AOpsO P G ops Q (o :: rest) st orc :=
  AOps.stepIfT hgd hd (of_decide_eq_true hb.1) hb.2 h (AOps.keep ks (hk ▸ k))
theorem AW.fillE {c : Code} (id : Nat) (ns : List (Option Nat)) (h : st.fill id ns = st') (k : AW P G c Q st') : AW P G c Q st := fun x M μ tmps w hg r => k x M μ tmps w hg (h ▸ r.fill id ns)
end
end Go.Proofs.YtdlejiiiifhiiaaDoor.Sy
namespace Go.Proofs.YtdlejiiiifhiiaaDoor
open Sy Go
set_option maxRecDepth 100000
set_option linter.unusedSimpArgs false
set_option linter.unusedVariables false
variable {G : Glob}

def hasPre (s p : List UInt8) : Bool := decide (p.length ≤ s.length) && decide (s.take p.length = p)
@[simp] theorem sHasPrefix_ev (s p : List UInt8) : AFn Tryd.prog G 44 [.str s, .str p] (.bool (hasPre s p)) := by
  refine AFn.intro tok Tryd.func44 (by kernel_rfl) rfl ?_
  simp only [Tryd.f44, St.start]
  refine AW.seqRun tok [] (by intro C; conv => lhs; simp) trivial ?_ -- r0 {}
  refine AW.seqRun tok [] (by intro C; conv => lhs; simp) (by simp +contextual) ?_ -- r1 {}
  exact AW.ret ⟨.inr rfl, _, _, by (conv => lhs; simp), trivial, by simp [hasPre]⟩
@[simp] theorem HasPrefix_ev (s p : List UInt8) : AFn Tryd.prog G 26 [.str s, .str p] (.bool (hasPre s p)) := by
  refine AFn.intro tok Tryd.func26 (by kernel_rfl) rfl ?_
  simp only [Tryd.f26, St.start]
  refine AW.seqRun tok [] (by intro C; conv => lhs; simp) trivial ?_ -- r0 {}
  refine AW.seqRun tok [.tup [.str s, .str p], .bool (hasPre s p)] (by intro C; conv => lhs; simp) (by simp) ?_ -- r1 {}
  exact AW.ret ⟨.inr rfl, _, _, by (conv => lhs; simp), trivial, by simp⟩
def cutPre (s p : List UInt8) : List UInt8 := if hasPre s p then s.drop p.length else s
@[simp] theorem sCutPrefix_ev (s p : List UInt8) : AFn Tryd.prog G 57 [.str s, .str p] (.tup [.str (cutPre s p), .bool (hasPre s p)]) := by
  refine AFn.intro tok Tryd.func57 (by kernel_rfl) rfl ?_
  simp only [Tryd.f57, St.start]
  refine AW.seqRun tok [] (by intro C; conv => lhs; simp) trivial ?_ -- r0 {}
  refine AW.seq ?_
  refine AW.seqRun tok [.tup [.str s, .str p], .bool (hasPre s p)] (by intro C; conv => lhs; simp) (by simp) ?_ -- r1 {t8:CALL call f38(t6, t7) args,res}
  refine AW.cond (c := .tmp 9) (by conv => lhs; simp) trivial ?_ ?_
  · intro h1
    simp at h1
    refine AW.seqRun tok [] (by intro C; conv => lhs; simp) trivial ?_ -- r2 {}
    exact AW.ret ⟨.inr rfl, _, _, by (conv => lhs; simp), trivial, by simp [cutPre, h1]⟩
  · intro h1
    simp at h1
    refine AW.skip ?_
    refine AW.seqRun tok [] (by intro C; conv => lhs; simp) (by simp [hasPre] at h1 ⊢; omega) ?_ -- r3 {}
    exact AW.ret ⟨.inr rfl, _, _, by (conv => lhs; simp), trivial, by simp [cutPre, h1]⟩
@[simp] theorem CutPrefix_ev (s p : List UInt8) : AFn Tryd.prog G 39 [.str s, .str p] (.tup [.str (cutPre s p), .bool (hasPre s p)]) := by
  refine AFn.intro tok Tryd.func39 (by kernel_rfl) rfl ?_
  simp only [Tryd.f39, St.start]
  refine AW.seqRun tok [] (by intro C; conv => lhs; simp) trivial ?_ -- r0 {}
  refine AW.seqRun tok [.tup [.str s, .str p], .tup [.str (cutPre s p), .bool (hasPre s p)]] (by intro C; conv => lhs; simp) (by simp) ?_ -- r1 {}
  exact AW.ret ⟨.inr rfl, _, _, by (conv => lhs; simp), trivial, by simp⟩

theorem ext68 : IsExt Tryd.prog 96 Extern.BytealgIndexByte.indexByte := fun args w => run_callFunc_extern Tryd.func96 (by kernel_rfl) (by kernel_rfl) (by kernel_rfl) (by kernel_rfl) args w
@[simp] theorem sIndexByte_ev (s : List UInt8) (n : Int) : AFn Tryd.prog G 90 [.str s, .int .u8 n] (.int .i64 (Lib.indexByte s n.toNat.toUInt8)) := by
  refine AFn.intro tok Tryd.func90 (by kernel_rfl) rfl ?_
  simp only [Tryd.f90, St.start]
  refine AW.seqRun tok [] (by intro C; conv => lhs; simp) trivial ?_ -- r0 {}
  refine AW.seqRunX tok 2 [] [] rfl rfl (by intro C; conv => lhs; simp) trivial (y_indexByte (s := s) (n := n) (p := True) (q := True) (r := True) ext68 rfl (by simp) trivial (by simp) trivial (by simp) trivial) (by intro C; conv => lhs; simp) trivial ?_
  exact AW.ret ⟨.inr rfl, _, _, by (conv => lhs; simp), trivial, by simp⟩
@[simp] theorem IndexByte_ev (s : List UInt8) (n : Int) : AFn Tryd.prog G 77 [.str s, .int .u8 n] (.int .i64 (Lib.indexByte s n.toNat.toUInt8)) := by
  refine AFn.intro tok Tryd.func77 (by kernel_rfl) rfl ?_
  simp only [Tryd.f77, St.start]
  refine AW.seqRun tok [] (by intro C; conv => lhs; simp) trivial ?_ -- r0 {}
  refine AW.seqRun tok [.tup [.str s, .int .u8 n], .int .i64 (Lib.indexByte s n.toNat.toUInt8)] (by intro C; conv => lhs; simp) (by simp) ?_ -- r1 {}
  exact AW.ret ⟨.inr rfl, _, _, by (conv => lhs; simp), trivial, by simp⟩
end Go.Proofs.YtdlejiiiifhiiaaDoor
namespace Go.Proofs.YtdlejiiiifhiiaaDoor
open Sy Go
set_option maxRecDepth 100000
set_option linter.unusedSimpArgs false
set_option linter.unusedVariables false
variable {G : Glob}

def asF (cs : List UInt8) (i : Nat) : Bool := cs.any fun b => b.toNat == i
theorem asF_snoc (cs : List UInt8) (c : UInt8) (n : Nat) : rowP n (fun k => decide (k = c.toNat) || asF cs k) = rowP n (asF (cs ++ [c])) := rowP_congr fun i _ => by
  by_cases h : i = c.toNat
  · simp [asF, h]
  · simp [asF, h, Ne.symm h]

def asS (cs : List UInt8) (a : Nat) : St := ⟨[.p (.str cs), .dead, .ptr 2 0, .dead, .p (.int .i64 a)] ++ List.replicate 16 .dead, [], [(2, .vars 95 (pcells (rowP 256 (asF (cs.take a)))))], 0⟩
theorem makeASCIISet_ev (cs : List UInt8) (hcs : ∀ b ∈ cs, b.toNat < 128) : AFn Tryd.prog G 61 [.str cs] (.tup [.agg (rowP 256 (asF cs)), .bool true]) := by
  refine AFn.intro tok Tryd.func61 (by kernel_rfl) rfl ?_
  simp only [Tryd.f61, St.start]
  refine AW.strFact (i := 0) rfl ?_
  intro hlen
  refine AW.seqRun tok [] (by intro C; conv => lhs; simp) (by simp) ?_ -- r0 {}
  refine AW.seq ?_
  refine AW.seqRun tok [] (by intro C; conv => lhs; simp) trivial ?_ -- r1 {}
  refine AW.block ?_
  -- LOOP
  refine AW.loop (α := Nat) (fun a => a ≤ cs.length) (fun a => asS cs a) (fun a => cs.length - a) 0 (by omega) ⟨by simp [asS], rfl, by simp [asS, reps_row]; rfl, by simp [asS]⟩ ?_
  intro a hI
  simp only [asS]
  refine AW.seq ?_
  refine AW.seqRun tok [] (by intro C; conv => lhs; simp) trivial ?_ -- r2 {}
  refine AW.cond (c := .tmp 9) (by conv => lhs; simp) trivial ?_ ?_
  · intro h1
    simp at h1
    obtain ⟨c, hc⟩ : ∃ c, cs[a]? = some c := ⟨cs[a], by simp [h1]⟩
    have hclt := hcs c (List.mem_of_getElem? hc)
    have hst : asF (cs.take (a + 1)) = asF (cs.take a ++ [c]) := by rw [List.take_add_one, hc]; rfl
    refine AW.skip ?_
    refine AW.seq ?_
    refine AW.block ?_
    refine AW.seqRun tok [.int .u8 c.toNat] (by intro C; conv => lhs; simp) (by simp [hc]) ?_ -- r4 {t14:sidx}
    refine AW.seq ?_
    refine AW.seqRun tok [] (by intro C; conv => lhs; simp) trivial ?_ -- r5 {}
    refine AW.cond (c := .tmp 16) (by conv => lhs; simp) trivial ?_ ?_
    · intro h2
      simp at h2
      omega
    · intro h2
      simp at h2
      refine AW.skip ?_
      refine AW.run tok [] (by intro C; conv => lhs; simp) (by omega) ?_ -- r7 {t19:index; storerow e0 e1}
      refine AW.run tok [] (by intro C; conv => lhs; simp) (by omega) ?_ -- r3 {}
      exact ⟨a + 1, by omega, by omega, by simp [asS], rfl, by simp [asS, hst]; exact congrArg pcells (asF_snoc _ _ _).symm, by simp [asS]⟩ -- END OF ROUND
  · intro h1
    simp at h1
    have hall : cs.take a = cs := List.take_of_length_le h1
    rw [hall]
    refine AW.exit ?_ -- exit 0
    simp
    refine AW.seqRun tok [] (by intro C; conv => lhs; simp) (by simp) ?_ -- r8 {}
    exact AW.ret ⟨.inr rfl, _, _, by (conv => lhs; simp), by simp, by simp⟩

theorem contains_ev (F : Nat → Bool) (n : Int) (h0 : 0 ≤ n) (h1 : n < 256) : AX Tryd.prog G 79 [.ptr 5 0, .p (.int .u8 n)] [(5, .vars 95 (pcells (rowP 256 F)))] (.p (.bool (F n.toNat))) [5] [(5, .vars 95 (pcells (rowP 256 F)))] := by
  refine AX.intro tok 2000 Tryd.func79 (by kernel_rfl) rfl ?_
  simp only [Tryd.f79, St.startX]
  refine AW.seqRun tok [] (by intro C; conv => lhs; simp) trivial ?_ -- r0 {}
  refine AW.seqRun tok [.bool (F n.toNat)] (by intro C; conv => lhs; simp) (by simp [rowP_get (show n.toNat < 256 by omega)]; omega) ?_ -- r1 {t8:index; t9:load}
  exact AW.ret ⟨.inr rfl, _, _, by (conv => lhs; simp), trivial, by simp, by simp, by simp, by simp⟩

def trimL (F : Nat → Bool) (s : List UInt8) : List UInt8 := s.dropWhile fun b => F b.toNat
def trimR (F : Nat → Bool) (s : List UInt8) : List UInt8 := (s.reverse.dropWhile fun b => F b.toNat).reverse
def tlS (r : List UInt8) (F : Nat → Bool) : St := ⟨[.p (.str r), .ptr 5 0] ++ List.replicate 14 .dead, [5], [(5, .vars 95 (pcells (rowP 256 F)))], 1000⟩
theorem trimLeftASCII_ev (F : Nat → Bool) (s : List UInt8) : AX Tryd.prog G 62 [.p (.str s), .ptr 5 0] [(5, .vars 95 (pcells (rowP 256 F)))] (.p (.str (trimL F s))) [5] [(5, .vars 95 (pcells (rowP 256 F)))] := by
  refine AX.intro tok 1000 Tryd.func62 (by kernel_rfl) rfl ?_
  simp only [Tryd.f62, St.startX]
  refine AW.seqRun tok [] (by intro C; conv => lhs; simp) trivial ?_ -- r0 {}
  refine AW.seq ?_
  refine AW.block ?_
  -- LOOP
  refine AW.loop (α := List UInt8) (fun r => trimL F r = trimL F s) (fun r => tlS r F) (fun r => r.length) s rfl ⟨by simp [tlS], rfl, by simp [tlS], by simp [tlS]⟩ ?_
  intro r hI
  simp only [tlS]
  refine AW.seq ?_
  refine AW.seqRun tok [] (by intro C; conv => lhs; simp) trivial ?_ -- r1 {}
  refine AW.cond (c := .tmp 7) (by conv => lhs; simp) trivial ?_ ?_
  · intro h1
    simp at h1
    obtain ⟨b, r, rfl⟩ : ∃ b r', r = b :: r' := by
      cases r with
      | nil => simp at h1
      | cons b r => exact ⟨b, r, rfl⟩
    have hb : b.toNat < 256 := b.toNat_lt
    refine AW.skip ?_
    refine AW.block ?_
    refine AW.seq ?_
    refine AW.seqRunX tok 3 [.int .u8 b.toNat] [] rfl rfl (by intro C; conv => lhs; simp) (by simp) (y_cx rfl (contains_ev F b.toNat (by omega) (by omega)) (by simp)) (by intro C; conv => lhs; simp) trivial ?_ -- r2 {t10:sidx; t11:CALL call f65(t8, t10) args,res}
    refine AW.cond (c := .tmp 12) (by conv => lhs; simp) trivial ?_ ?_
    · intro h2
      simp at h2
      refine AW.exit ?_ -- exit 0
      simp
      refine AW.seqRun tok [] (by intro C; conv => lhs; simp) trivial ?_ -- r4 {}
      exact AW.ret ⟨.inr rfl, _, _, by (conv => lhs; simp), trivial, by rw [← hI]; simp [trimL, h2], by simp, by simp, by simp⟩
    · intro h2
      simp at h2
      refine AW.skip ?_
      refine AW.run tok [] (by intro C; conv => lhs; simp) (by omega) ?_ -- r3 {}
      exact ⟨r, by rw [← hI]; simp [trimL, h2], by simp, by simp [tlS], rfl, by simp [tlS], by simp [tlS]⟩ -- END OF ROUND
  · intro h1
    simp at h1
    subst h1
    refine AW.exit ?_ -- exit 0
    simp
    refine AW.seqRun tok [] (by intro C; conv => lhs; simp) trivial ?_ -- r4 {}
    exact AW.ret ⟨.inr rfl, _, _, by (conv => lhs; simp), trivial, by rw [← hI]; simp [trimL], by simp, by simp, by simp⟩

def trimM (s cs : List UInt8) : List UInt8 := trimL (asF cs) (trimR (asF cs) s)
end Go.Proofs.YtdlejiiiifhiiaaDoor
