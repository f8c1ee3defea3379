/-
  OUR OWN LAYER, 4: what is known of the types; operands; the values of the operations that only compute.
-/
import Derived.Test.YtdploelkmlbhnaaDoorCore3
namespace Go.Proofs.YtdploelkmlbhnaaDoor.Sy
open Go

/-! ### Types -/
inductive TK where
  | bool | int (k : IntKind) | str | sl (e : TypeId) | ar (n : Nat) (e : TypeId) | st (fs : List (Nat × TypeId)) | ptr (e : TypeId) | map (k e : TypeId) | fn | iface | other
  deriving DecidableEq

def TK.of : TypeDesc → TK
  | .bool => .bool
  | .int k => .int k
  | .string => .str
  | .slice e => .sl e
  | .array n e => .ar n e
  | .struct fs => .st (fs.toList.map fun f => (f.offset, f.type))
  | .pointer e => .ptr e
  | .map k e => .map k e
  | .func _ _ _ => .fn
  | .interface _ => .iface
  | _ => .other
def TK.agg : TK → Bool
  | .ar _ _ | .st _ => true
  | _ => false

def kmin : IntKind → Int
  | .i8 => -128 | .i16 => -32768 | .i32 => -2147483648 | .i64 => -9223372036854775808 | _ => 0
def kmax : IntKind → Int
  | .i8 => 127 | .i16 => 32767 | .i32 => 2147483647 | .i64 => 9223372036854775807
  | .u8 => 255 | .u16 => 65535 | .u32 => 4294967295 | .u64 => 18446744073709551615
theorem kmin_eq (k : IntKind) : k.min = kmin k := by cases k <;> rfl
theorem kmax_eq (k : IntKind) : k.max = kmax k := by cases k <;> rfl

def ofAtom : Value → V
  | .bool b => .p (.bool b)
  | .int k n => if kmin k ≤ n ∧ n ≤ kmax k then .p (.int k n) else .dead
  | .string s => if s.data.toList.length ≤ maxLen then .p (.str s.data.toList) else .dead
  | .pointer none => .p .nilp
  | .slice none 0 0 => .nilsl
  | .nilFunc => .p .nilf
  | _ => .dead
def ofConst : Value → V
  | .agg cs => if cs.toList.all (·.oneCell') then .agg (cs.toList.map ofAtom) else .dead
  | v => ofAtom v

theorem ofAtom_sound (M : FMap) (μ : Mu) (v : Value) : RV M μ v (ofAtom v) := by
  unfold ofAtom
  split
  · exact .p (.bool _)
  · rename_i k n
    split
    · rename_i h; exact .p (.int (by rw [kmin_eq]; exact h.1) (by rw [kmax_eq]; exact h.2))
    · exact .dead
  · split
    · exact .p (.str rfl (by assumption))
    · exact .dead
  · exact .p .nilp
  · exact .nilsl
  · exact .p .nilf
  · exact .dead
theorem ofConst_sound (M : FMap) (μ : Mu) (v : Value) : RV M μ v (ofConst v) := by
  unfold ofConst
  split
  · rename_i cs
    split
    case isFalse => exact .dead
    rename_i hone
    rw [List.all_eq_true] at hone
    refine .agg (by simp) (fun i u hu => hone u (by simpa using Array.mem_of_getElem? hu)) fun i u x hu hx => ?_
    have h1 : (cs.toList.map ofAtom)[i]? = some (ofAtom u) := by simp [hu]
    rw [h1] at hx; cases hx
    exact ofAtom_sound _ _ _
  · exact ofAtom_sound _ _ _

structure TI where
  k : TK
  size : Nat
  bytes : Nat
  zero : V
  /-- may values of the type be held against each other field by field -/
  eqOk : Bool

abbrev Tab := TypeId → Option TI

def eqOf (P : Program) (t : TypeId) (d : TypeDesc) : Bool :=
  !P.stoodInHeld t && !P.eqGuardType P.depth t && (match d with | .struct fs => fs.toList.all fun f => f.name != "_" | _ => true)
noncomputable def tinfo (P : Program) (t : TypeId) : Option TI :=
  match P.info? t, P.underlying t with
  | some i, some d => some { k := TK.of d, size := i.size, bytes := i.bytes, zero := (i.zero.map ofConst).getD .dead, eqOk := eqOf P t d }
  | _, _ => none

def TOK (P : Program) (T : Tab) : Prop := ∀ t ti, T t = some ti → tinfo P t = some ti

theorem TOK.get {P : Program} {T : Tab} (h : TOK P T) {t : TypeId} {ti : TI} (ht : T t = some ti) :
    ∃ i d, P.info? t = some i ∧ P.underlying t = some d ∧ TK.of d = ti.k ∧ i.size = ti.size ∧ i.bytes = ti.bytes ∧ (i.zero.map ofConst).getD .dead = ti.zero ∧
      eqOf P t d = ti.eqOk := by
  have := h t ti ht
  unfold tinfo at this
  split at this
  · rename_i i d hi hd
    cases this
    exact ⟨i, d, hi, hd, rfl, rfl, rfl, rfl, rfl⟩
  · cases this

/-! ### Operands -/
def V.strip : V → Prop × V
  | .when b x => (b = true ∧ x.strip.1, x.strip.2)
  | x => (True, x)
theorem V.strip_sound {M : FMap} {μ : Mu} {u : Value} {x : V} (r : RV M μ u x) : x.strip.1 → RV M μ u x.strip.2 := by
  induction r with
  | when h1 h2 ih => exact fun h => ih h.1 h.2
  | p r => exact fun _ => .p r
  | dead => exact fun _ => .dead
  | nilsl => exact fun _ => .nilsl
  | ptr h => exact fun _ => .ptr h
  | rptr h => exact fun _ => .rptr h
  | cptr h1 h2 => exact fun _ => .cptr h1 h2
  | ms h h2 => exact fun _ => .ms h h2
  | it h => exact fun _ => .it h
  | func h1 h2 h3 h4 _ _ => exact fun _ => .func h1 h2 h3 h4
  | agg h1 h2 h3 _ => exact fun _ => .agg h1 h2 h3
  | tuple h1 h2 _ => exact fun _ => .tuple h1 h2

def St.ev (st : St) (G : Glob) : Operand → V
  | .tmp t => st.tmps.getD t .dead
  | .const v => ofConst v
  | .global g => match G g with
    | some cs => .cptr cs
    | none => .dead
  | .func f => .p (.fn f)

theorem ev_sound {G : Glob} {c : Ctx} {M : FMap} {μ : Mu} {st : St} {tmps : Array Value} {w : World} (hg : GOK G c.M0) (r : Rel c M μ st tmps w) (x : Operand) :
    RV M μ (Act.eval ⟨tmps, []⟩ x) (st.ev G x) := by
  cases x with
  | tmp t =>
    simp only [Act.eval, St.ev]
    have h1 := r.slots.1
    by_cases h : t < st.tmps.length
    · have hx : st.tmps[t]? = some (st.tmps.getD t .dead) := by simp [List.getD, h]
      have hlt : t < tmps.size := by rw [h1]; exact h
      have hu : tmps[t]? = some (tmps.getD t undef) := by simp [Array.getD, hlt]
      exact r.slots.2 t _ _ hu hx
    · have : st.tmps.getD t .dead = .dead := by simp [List.getD, List.getElem?_eq_none (Nat.le_of_not_lt h)]
      rw [this]; exact .dead
  | const v => exact ofConst_sound _ _ _
  | func f => exact .p (.fn f)
  | global g =>
    simp only [Act.eval, St.ev]
    cases hG : G g with
    | none => exact .dead
    | some cs =>
      obtain ⟨h1, h2⟩ := (hg.mono r.ext) g cs hG
      exact .cptr (by simpa using h1) (by simpa using h2)

def purL : List V → Option (List PD)
  | [] => some []
  | .p d :: r => match purL r with
    | some ds => some (d :: ds)
    | none => none
  | _ :: _ => none
/-- A struct of plain data is plain data. -/
def V.pur : V → V
  | .agg cs => match purL cs with
    | some ds => .p (.agg ds)
    | none => .agg cs
  | x => x
theorem purL_map : ∀ {cs : List V} {ds : List PD}, purL cs = some ds → cs = ds.map .p
  | [], ds, h => by simp only [purL, Option.some.injEq] at h; subst h; rfl
  | x :: r, ds, h => by
    cases x with
    | p d =>
      simp only [purL] at h
      split at h
      · rename_i ds' h'
        cases h
        simp [purL_map h']
      · cases h
    | _ => simp [purL] at h
theorem RV.p_inv {M : FMap} {μ : Mu} {u : Value} {d : PD} (h : RV M μ u (.p d)) : Rd M u d := by cases h; assumption
theorem V.pur_sound {M : FMap} {μ : Mu} {u : Value} {x : V} (r : RV M μ u x) : RV M μ u x.pur := by
  cases x with
  | agg cs =>
    simp only [V.pur]
    split
    · rename_i ds h
      have := purL_map h
      subst this
      cases r with
      | agg h1 h2 h3 =>
        refine .p (.agg (by simpa using h1) h2 fun i u d hu hd => ?_)
        exact (h3 i u (.p d) hu (by simp [hd])).p_inv
    · exact r
  | _ => exact r

def St.arg (st : St) (G : Glob) (x : Operand) : Prop × V := match (st.ev G x).strip with
  | (p, y) => (p, y.pur)

theorem arg_sound {G : Glob} {c : Ctx} {M : FMap} {μ : Mu} {st : St} {tmps : Array Value} {w : World} (hg : GOK G c.M0) (r : Rel c M μ st tmps w) {x : Operand} {p : Prop} {y : V}
    (h : st.arg G x = (p, y)) (hp : p) : RV M μ (Act.eval ⟨tmps, []⟩ x) y := by
  have h1 := V.strip_sound (ev_sound hg r x)
  unfold St.arg at h
  split at h
  rename_i q z hz
  rw [hz] at h1
  cases h
  exact V.pur_sound (h1 hp)

/-! ### Pure operations on pure data -/
def PD.ite (t : Bool) : PD → PD → PD
  | .bool a, .bool b => .bool (if t then a else b)
  | a, b => if t then a else b
theorem Rd.ite {M : FMap} {u : Value} {t : Bool} {a b : PD} (h1 : t = true → Rd M u a) (h2 : t = false → Rd M u b) : Rd M u (PD.ite t a b) := by
  unfold PD.ite
  cases t
  · have := h2 rfl
    split <;> simpa using this
  · have := h1 rfl
    split <;> simpa using this

def intBin (op : BinOp) (k : IntKind) (a b : Int) : Option (Prop × PD) :=
  match op with
  | .add => if k.signed then some (kmin k ≤ a + b ∧ a + b ≤ kmax k, .int k (a + b)) else some (True, .int k (k.wrap (a + b)))
  | .sub => if k.signed then some (kmin k ≤ a - b ∧ a - b ≤ kmax k, .int k (a - b)) else some (True, .int k (k.wrap (a - b)))
  | .mul => if k.signed then some (kmin k ≤ a * b ∧ a * b ≤ kmax k, .int k (a * b)) else some (True, .int k (k.wrap (a * b)))
  | .quo => some (b ≠ 0, .int k (k.wrap (a.tdiv b)))
  | .rem => some (b ≠ 0, .int k (a.tmod b))
  | .and => some (True, .int k (k.wrap (BitVec.ofInt k.bits a &&& BitVec.ofInt k.bits b).toNat))
  | .or => some (True, .int k (k.wrap (BitVec.ofInt k.bits a ||| BitVec.ofInt k.bits b).toNat))
  | .xor => some (True, .int k (k.wrap (BitVec.ofInt k.bits a ^^^ BitVec.ofInt k.bits b).toNat))
  | .andNot => some (True, .int k (k.wrap (BitVec.ofInt k.bits a &&& ~~~BitVec.ofInt k.bits b).toNat))
  | .eql => some (True, .bool (decide (a = b)))
  | .neq => some (True, .bool (!decide (a = b)))
  | .lss => some (True, .bool (decide (a < b)))
  | .leq => some (True, .bool (decide (a ≤ b)))
  | .gtr => some (True, .bool (decide (a > b)))
  | .geq => some (True, .bool (decide (a ≥ b)))
  | _ => none

def intShift (op : BinOp) (k : IntKind) (a b : Int) : Option (Prop × PD) :=
  match op with
  | .shl => some (0 ≤ b, .int k (k.wrap (a * 2 ^ (min b.toNat k.bits))))
  | .shr => some (0 ≤ b, .int k (a.fdiv (2 ^ (min b.toNat k.bits))))
  | _ => none

def strBin (op : BinOp) (a b : List UInt8) : Option (Prop × PD) :=
  match op with
  | .add => some (a.length + b.length ≤ 9223372036854775807, .str (a ++ b))
  | .eql => some (True, .bool (decide (a = b)))
  | .neq => some (True, .bool (!decide (a = b)))
  | .lss => some (True, .bool (Op.bytesLess a b))
  | .leq => some (True, .bool (Op.bytesLess a b || decide (a = b)))
  | .gtr => some (True, .bool (!(Op.bytesLess a b || decide (a = b))))
  | .geq => some (True, .bool (!Op.bytesLess a b))
  | _ => none

theorem wrap_min (k : IntKind) (n : Int) : k.min ≤ k.wrap n := by
  cases k <;> simp [IntKind.min, IntKind.wrap, IntKind.signed, IntKind.bits] <;> (try split) <;> omega
theorem wrap_max (k : IntKind) (n : Int) : k.wrap n ≤ k.max := by
  cases k <;> simp [IntKind.max, IntKind.wrap, IntKind.signed, IntKind.bits] <;> (try split) <;> omega
theorem wrap_of (k : IntKind) (n : Int) (h1 : kmin k ≤ n) (h2 : n ≤ kmax k) : k.wrap n = n := by
  cases k <;> simp only [kmin, kmax] at h1 h2 <;> simp [IntKind.wrap, IntKind.signed, IntKind.bits] <;> (try split) <;> omega

theorem Rd.intOf {M : FMap} {k : IntKind} {n : Int} (h1 : kmin k ≤ n) (h2 : n ≤ kmax k) : Rd M (.int k n) (.int k n) :=
  .int (by rw [kmin_eq]; exact h1) (by rw [kmax_eq]; exact h2)
theorem Rd.wrap (M : FMap) (k : IntKind) (n : Int) : Rd M (.int k (k.wrap n)) (.int k (k.wrap n)) := .int (wrap_min k n) (wrap_max k n)

theorem tmod_le_self {a : Int} (h : 0 ≤ a) (b : Int) : a.tmod b ≤ a := by
  obtain ⟨n, rfl⟩ := Int.eq_ofNat_of_zero_le h
  have e : Int.tmod (n : Int) b = ((n % b.natAbs : Nat) : Int) := by
    cases b with
    | ofNat m => rfl
    | negSucc m => rfl
  rw [e]
  have := Nat.mod_le n b.natAbs
  omega
theorem tmod_range (k : IntKind) (a b : Int) (ha1 : kmin k ≤ a) (ha2 : a ≤ kmax k) : kmin k ≤ a.tmod b ∧ a.tmod b ≤ kmax k := by
  have h0 : kmin k ≤ 0 ∧ 0 ≤ kmax k := by cases k <;> simp [kmin, kmax]
  by_cases h : 0 ≤ a
  · have h1 := Int.tmod_nonneg b h
    have h2 : a.tmod b ≤ a := by
      exact tmod_le_self h b
    omega
  · have e : a.tmod b = -((-a).tmod b) := by rw [Int.neg_tmod]; omega
    have h1 := Int.tmod_nonneg b (show 0 ≤ -a by omega)
    have h2 : (-a).tmod b ≤ -a := by
      exact tmod_le_self (by omega) b
    omega

theorem fdiv_range (k : IntKind) (a : Int) (n : Nat) (ha1 : kmin k ≤ a) (ha2 : a ≤ kmax k) : kmin k ≤ a.fdiv (2 ^ n) ∧ a.fdiv (2 ^ n) ≤ kmax k := by
  have h0 : kmin k ≤ 0 ∧ 0 ≤ kmax k := by cases k <;> simp [kmin, kmax]
  have hp : (0 : Int) < 2 ^ n := Int.pow_pos (by omega)
  rw [Int.fdiv_eq_ediv_of_nonneg _ (by omega)]
  constructor
  · by_cases h : 0 ≤ a
    · have := Int.ediv_nonneg h (show (0 : Int) ≤ 2 ^ n by omega); omega
    · refine Int.le_trans ha1 ?_
      rw [Int.le_ediv_iff_mul_le hp]
      have : a * 2 ^ n ≤ a * 1 := Int.mul_le_mul_of_nonpos_left (by omega) (by omega)
      omega
  · by_cases h : 0 ≤ a
    · have := Int.ediv_le_self (2 ^ n) h; omega
    · have := Int.ediv_lt_of_lt_mul hp (show a < 0 * 2 ^ n by omega)
      omega

end Go.Proofs.YtdploelkmlbhnaaDoor.Sy
