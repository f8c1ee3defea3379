/-
  OUR OWN LAYER: the table of the types of this translation, by program (gentab.py).
-/
import Derived.Test.YtdploelkmlbhnaaDoorCore18
import Derived.Test.YtdploelkmlbhnaaDoorRows
namespace Go.Proofs.YtdploelkmlbhnaaDoor
open Sy
def tbl : List (Option TI) := [
  none,
  some ⟨.fn, 1, 8, .p .nilf, true⟩,
  some ⟨.int .i64, 1, 8, .p (.int .i64 0), true⟩,
  some ⟨.int .i64, 1, 8, .p (.int .i64 0), true⟩,
  some ⟨.bool, 1, 1, .p (.bool false), true⟩,
  some ⟨.int .u8, 1, 1, .p (.int .u8 0), true⟩,
  none,
  none,
  none,
  some ⟨.str, 1, 16, .p (.str []), true⟩,
  none,
  none,
  some ⟨.int .u64, 1, 8, .p (.int .u64 0), true⟩,
  none,
  none,
  none,
  none,
  none,
  none,
  none,
  none,
  some ⟨.int .i32, 1, 4, .p (.int .i32 0), true⟩,
  some ⟨.sl 29, 1, 24, .nilsl, true⟩,
  some ⟨.fn, 1, 8, .p .nilf, true⟩,
  some ⟨.fn, 1, 8, .p .nilf, true⟩,
  some ⟨.int .i64, 1, 8, .p (.int .i64 0), true⟩,
  some ⟨.fn, 1, 8, .p .nilf, true⟩,
  some ⟨.fn, 1, 8, .p .nilf, true⟩,
  some ⟨.st [(0, 3), (1, 9), (2, 3)], 3, 32, .agg [.p (.int .i64 0), .p (.str []), .p (.int .i64 0)], true⟩,
  some ⟨.st [(0, 3), (1, 9), (2, 3)], 3, 32, .agg [.p (.int .i64 0), .p (.str []), .p (.int .i64 0)], true⟩,
  some ⟨.fn, 1, 8, .p .nilf, true⟩,
  none,
  some ⟨.fn, 1, 8, .p .nilf, true⟩,
  some ⟨.fn, 1, 8, .p .nilf, true⟩,
  some ⟨.fn, 1, 8, .p .nilf, true⟩,
  some ⟨.fn, 1, 8, .p .nilf, true⟩,
  some ⟨.fn, 1, 8, .p .nilf, true⟩,
  some ⟨.fn, 1, 8, .p .nilf, true⟩,
  some ⟨.sl 4, 1, 24, .nilsl, true⟩,
  some ⟨.fn, 1, 8, .p .nilf, true⟩,
  some ⟨.fn, 1, 8, .p .nilf, true⟩,
  none,
  some ⟨.fn, 1, 8, .p .nilf, true⟩,
  some ⟨.fn, 1, 8, .p .nilf, true⟩,
  some ⟨.fn, 1, 8, .p .nilf, true⟩,
  some ⟨.fn, 1, 8, .p .nilf, true⟩,
  none,
  some ⟨.fn, 1, 8, .p .nilf, true⟩,
  some ⟨.fn, 1, 8, .p .nilf, true⟩,
  some ⟨.fn, 1, 8, .p .nilf, true⟩,
  none,
  some ⟨.fn, 1, 8, .p .nilf, true⟩,
  some ⟨.ptr 55, 1, 8, .p .nilp, true⟩,
  some ⟨.sl 5, 1, 24, .nilsl, true⟩,
  some ⟨.st [(0, 52), (1, 53)], 2, 32, .agg [.p .nilp, .nilsl], true⟩,
  some ⟨.st [(0, 52), (1, 53)], 2, 32, .agg [.p .nilp, .nilsl], true⟩,
  none,
  some ⟨.fn, 1, 8, .p .nilf, true⟩,
  some ⟨.fn, 1, 8, .p .nilf, true⟩,
  some ⟨.fn, 1, 8, .p .nilf, true⟩,
  none,
  some ⟨.fn, 1, 8, .p .nilf, true⟩,
  none,
  none,
  none,
  some ⟨.fn, 1, 8, .p .nilf, true⟩,
  some ⟨.fn, 1, 8, .p .nilf, true⟩,
  some ⟨.fn, 1, 8, .p .nilf, true⟩,
  some ⟨.fn, 1, 8, .p .nilf, true⟩,
  some ⟨.fn, 1, 8, .p .nilf, true⟩,
  some ⟨.int .u64, 1, 8, .p (.int .u64 0), true⟩,
  some ⟨.fn, 1, 8, .p .nilf, true⟩,
  some ⟨.ar 256 5, 256, 256, .agg (pcells (reps 256 (.int .u8 0))), true⟩,
  some ⟨.st [(0, 5), (1, 5)], 2, 2, .agg [.p (.int .u8 0), .p (.int .u8 0)], true⟩,
  some ⟨.st [(0, 5), (1, 5)], 2, 2, .agg [.p (.int .u8 0), .p (.int .u8 0)], true⟩,
  some ⟨.ar 16 74, 32, 32, .agg (pcells (reps 32 (.int .u8 0))), true⟩,
  some ⟨.ptr 5, 1, 8, .p .nilp, true⟩,
  none,
  some ⟨.fn, 1, 8, .p .nilf, true⟩,
  some ⟨.fn, 1, 8, .p .nilf, true⟩,
  some ⟨.fn, 1, 8, .p .nilf, true⟩,
  some ⟨.ar 256 4, 256, 256, .agg (pcells (reps 256 (.bool false))), true⟩,
  some ⟨.ar 256 4, 256, 256, .agg (pcells (reps 256 (.bool false))), true⟩,
  none,
  some ⟨.fn, 1, 8, .p .nilf, true⟩,
  some ⟨.fn, 1, 8, .p .nilf, true⟩,
  some ⟨.ptr 82, 1, 8, .p .nilp, true⟩,
  some ⟨.fn, 1, 8, .p .nilf, true⟩,
  some ⟨.int .u64, 1, 8, .p (.int .u64 0), true⟩,
  none,
  some ⟨.fn, 1, 8, .p .nilf, true⟩,
  some ⟨.int .u32, 1, 4, .p (.int .u32 0), true⟩,
  some ⟨.fn, 1, 8, .p .nilf, true⟩,
  some ⟨.fn, 1, 8, .p .nilf, true⟩,
  some ⟨.ar 24 5, 24, 24, .agg (pcells (reps 24 (.int .u8 0))), true⟩,
  some ⟨.fn, 1, 8, .p .nilf, true⟩,
  some ⟨.fn, 1, 8, .p .nilf, true⟩,
  none,
  some ⟨.fn, 1, 8, .p .nilf, true⟩,
  some ⟨.fn, 1, 8, .p .nilf, true⟩,
  some ⟨.fn, 1, 8, .p .nilf, true⟩,
  some ⟨.fn, 1, 8, .p .nilf, true⟩,
  some ⟨.ar 20 88, 20, 160, .agg (pcells (reps 20 (.int .u64 0))), true⟩,
  some ⟨.ar 65 5, 65, 65, .agg (pcells (reps 65 (.int .u8 0))), true⟩,
  some ⟨.fn, 1, 8, .p .nilf, true⟩,
  some ⟨.fn, 1, 8, .p .nilf, true⟩,
  some ⟨.fn, 1, 8, .p .nilf, true⟩,
  some ⟨.fn, 1, 8, .p .nilf, true⟩,
  some ⟨.fn, 1, 8, .p .nilf, true⟩,
  some ⟨.ar 32 5, 32, 32, .agg (pcells (reps 32 (.int .u8 0))), true⟩,
  some ⟨.ar 64 5, 64, 64, .agg (pcells (reps 64 (.int .u8 0))), true⟩,
  none,
  none,
  none,
  none,
  none,
  none,
  none,
  some ⟨.fn, 1, 8, .p .nilf, true⟩,
  none,
  none,
  none,
  none]
def T : Tab := fun t => (tbl[t]?).getD none
def tblOK (P : Program) : Nat → List (Option TI) → Prop
  | _, [] => True
  | k, none :: r => tblOK P (k + 1) r
  | k, some ti :: r => tinfo P k = some ti ∧ tblOK P (k + 1) r
theorem tblOK_get {P : Program} : ∀ {l : List (Option TI)} {k : Nat}, tblOK P k l → ∀ {i : Nat} {ti : TI}, l[i]? = some (some ti) → tinfo P (k + i) = some ti
  | [], _, _, i, ti, h => by simp at h
  | none :: r, k, hk, i, ti, h => by
    cases i with
    | zero => simp at h
    | succ i => have := tblOK_get (l := r) (k := k + 1) hk (i := i) (ti := ti) (by simpa using h); rw [← this, show k + (i + 1) = k + 1 + i from by omega]
  | some t0 :: r, k, hk, i, ti, h => by
    cases i with
    | zero => simp at h; subst h; exact hk.1
    | succ i => have := tblOK_get (l := r) (k := k + 1) hk.2 (i := i) (ti := ti) (by simpa using h); rw [← this, show k + (i + 1) = k + 1 + i from by omega]

theorem ti1 : tinfo Tryd.prog 1 = some ⟨.fn, 1, 8, .p .nilf, true⟩ := by kernel_rfl
theorem ti2 : tinfo Tryd.prog 2 = some ⟨.int .i64, 1, 8, .p (.int .i64 0), true⟩ := by kernel_rfl
theorem ti3 : tinfo Tryd.prog 3 = some ⟨.int .i64, 1, 8, .p (.int .i64 0), true⟩ := by kernel_rfl
theorem ti4 : tinfo Tryd.prog 4 = some ⟨.bool, 1, 1, .p (.bool false), true⟩ := by kernel_rfl
theorem ti5 : tinfo Tryd.prog 5 = some ⟨.int .u8, 1, 1, .p (.int .u8 0), true⟩ := by kernel_rfl
theorem ti9 : tinfo Tryd.prog 9 = some ⟨.str, 1, 16, .p (.str []), true⟩ := by kernel_rfl
theorem ti12 : tinfo Tryd.prog 12 = some ⟨.int .u64, 1, 8, .p (.int .u64 0), true⟩ := by kernel_rfl
theorem ti21 : tinfo Tryd.prog 21 = some ⟨.int .i32, 1, 4, .p (.int .i32 0), true⟩ := by kernel_rfl
theorem ti22 : tinfo Tryd.prog 22 = some ⟨.sl 29, 1, 24, .nilsl, true⟩ := by kernel_rfl
theorem ti23 : tinfo Tryd.prog 23 = some ⟨.fn, 1, 8, .p .nilf, true⟩ := by kernel_rfl
theorem ti24 : tinfo Tryd.prog 24 = some ⟨.fn, 1, 8, .p .nilf, true⟩ := by kernel_rfl
theorem ti25 : tinfo Tryd.prog 25 = some ⟨.int .i64, 1, 8, .p (.int .i64 0), true⟩ := by kernel_rfl
theorem ti26 : tinfo Tryd.prog 26 = some ⟨.fn, 1, 8, .p .nilf, true⟩ := by kernel_rfl
theorem ti27 : tinfo Tryd.prog 27 = some ⟨.fn, 1, 8, .p .nilf, true⟩ := by kernel_rfl
theorem ti28 : tinfo Tryd.prog 28 = some ⟨.st [(0, 3), (1, 9), (2, 3)], 3, 32, .agg [.p (.int .i64 0), .p (.str []), .p (.int .i64 0)], true⟩ := by kernel_rfl
theorem ti29 : tinfo Tryd.prog 29 = some ⟨.st [(0, 3), (1, 9), (2, 3)], 3, 32, .agg [.p (.int .i64 0), .p (.str []), .p (.int .i64 0)], true⟩ := by kernel_rfl
theorem ti30 : tinfo Tryd.prog 30 = some ⟨.fn, 1, 8, .p .nilf, true⟩ := by kernel_rfl
theorem ti32 : tinfo Tryd.prog 32 = some ⟨.fn, 1, 8, .p .nilf, true⟩ := by kernel_rfl
theorem ti33 : tinfo Tryd.prog 33 = some ⟨.fn, 1, 8, .p .nilf, true⟩ := by kernel_rfl
theorem ti34 : tinfo Tryd.prog 34 = some ⟨.fn, 1, 8, .p .nilf, true⟩ := by kernel_rfl
theorem ti35 : tinfo Tryd.prog 35 = some ⟨.fn, 1, 8, .p .nilf, true⟩ := by kernel_rfl
theorem ti36 : tinfo Tryd.prog 36 = some ⟨.fn, 1, 8, .p .nilf, true⟩ := by kernel_rfl
theorem ti37 : tinfo Tryd.prog 37 = some ⟨.fn, 1, 8, .p .nilf, true⟩ := by kernel_rfl
theorem ti38 : tinfo Tryd.prog 38 = some ⟨.sl 4, 1, 24, .nilsl, true⟩ := by kernel_rfl
theorem ti39 : tinfo Tryd.prog 39 = some ⟨.fn, 1, 8, .p .nilf, true⟩ := by kernel_rfl
theorem ti40 : tinfo Tryd.prog 40 = some ⟨.fn, 1, 8, .p .nilf, true⟩ := by kernel_rfl
theorem ti42 : tinfo Tryd.prog 42 = some ⟨.fn, 1, 8, .p .nilf, true⟩ := by kernel_rfl
theorem ti43 : tinfo Tryd.prog 43 = some ⟨.fn, 1, 8, .p .nilf, true⟩ := by kernel_rfl
theorem ti44 : tinfo Tryd.prog 44 = some ⟨.fn, 1, 8, .p .nilf, true⟩ := by kernel_rfl
theorem ti45 : tinfo Tryd.prog 45 = some ⟨.fn, 1, 8, .p .nilf, true⟩ := by kernel_rfl
theorem ti47 : tinfo Tryd.prog 47 = some ⟨.fn, 1, 8, .p .nilf, true⟩ := by kernel_rfl
theorem ti48 : tinfo Tryd.prog 48 = some ⟨.fn, 1, 8, .p .nilf, true⟩ := by kernel_rfl
theorem ti49 : tinfo Tryd.prog 49 = some ⟨.fn, 1, 8, .p .nilf, true⟩ := by kernel_rfl
theorem ti51 : tinfo Tryd.prog 51 = some ⟨.fn, 1, 8, .p .nilf, true⟩ := by kernel_rfl
theorem ti52 : tinfo Tryd.prog 52 = some ⟨.ptr 55, 1, 8, .p .nilp, true⟩ := by kernel_rfl
theorem ti53 : tinfo Tryd.prog 53 = some ⟨.sl 5, 1, 24, .nilsl, true⟩ := by kernel_rfl
theorem ti54 : tinfo Tryd.prog 54 = some ⟨.st [(0, 52), (1, 53)], 2, 32, .agg [.p .nilp, .nilsl], true⟩ := by kernel_rfl
theorem ti55 : tinfo Tryd.prog 55 = some ⟨.st [(0, 52), (1, 53)], 2, 32, .agg [.p .nilp, .nilsl], true⟩ := by kernel_rfl
theorem ti57 : tinfo Tryd.prog 57 = some ⟨.fn, 1, 8, .p .nilf, true⟩ := by kernel_rfl
theorem ti58 : tinfo Tryd.prog 58 = some ⟨.fn, 1, 8, .p .nilf, true⟩ := by kernel_rfl
theorem ti59 : tinfo Tryd.prog 59 = some ⟨.fn, 1, 8, .p .nilf, true⟩ := by kernel_rfl
theorem ti61 : tinfo Tryd.prog 61 = some ⟨.fn, 1, 8, .p .nilf, true⟩ := by kernel_rfl
theorem ti65 : tinfo Tryd.prog 65 = some ⟨.fn, 1, 8, .p .nilf, true⟩ := by kernel_rfl
theorem ti66 : tinfo Tryd.prog 66 = some ⟨.fn, 1, 8, .p .nilf, true⟩ := by kernel_rfl
theorem ti67 : tinfo Tryd.prog 67 = some ⟨.fn, 1, 8, .p .nilf, true⟩ := by kernel_rfl
theorem ti68 : tinfo Tryd.prog 68 = some ⟨.fn, 1, 8, .p .nilf, true⟩ := by kernel_rfl
theorem ti69 : tinfo Tryd.prog 69 = some ⟨.fn, 1, 8, .p .nilf, true⟩ := by kernel_rfl
theorem ti70 : tinfo Tryd.prog 70 = some ⟨.int .u64, 1, 8, .p (.int .u64 0), true⟩ := by kernel_rfl
theorem ti71 : tinfo Tryd.prog 71 = some ⟨.fn, 1, 8, .p .nilf, true⟩ := by kernel_rfl
theorem ti72 : tinfo Tryd.prog 72 = some ⟨.ar 256 5, 256, 256, .agg (pcells (reps 256 (.int .u8 0))), true⟩ := by kernel_rfl
theorem ti73 : tinfo Tryd.prog 73 = some ⟨.st [(0, 5), (1, 5)], 2, 2, .agg [.p (.int .u8 0), .p (.int .u8 0)], true⟩ := by kernel_rfl
theorem ti74 : tinfo Tryd.prog 74 = some ⟨.st [(0, 5), (1, 5)], 2, 2, .agg [.p (.int .u8 0), .p (.int .u8 0)], true⟩ := by kernel_rfl
theorem ti75 : tinfo Tryd.prog 75 = some ⟨.ar 16 74, 32, 32, .agg (pcells (reps 32 (.int .u8 0))), true⟩ := by kernel_rfl
theorem ti76 : tinfo Tryd.prog 76 = some ⟨.ptr 5, 1, 8, .p .nilp, true⟩ := by kernel_rfl
theorem ti78 : tinfo Tryd.prog 78 = some ⟨.fn, 1, 8, .p .nilf, true⟩ := by kernel_rfl
theorem ti79 : tinfo Tryd.prog 79 = some ⟨.fn, 1, 8, .p .nilf, true⟩ := by kernel_rfl
theorem ti80 : tinfo Tryd.prog 80 = some ⟨.fn, 1, 8, .p .nilf, true⟩ := by kernel_rfl
theorem ti81 : tinfo Tryd.prog 81 = some ⟨.ar 256 4, 256, 256, .agg (pcells (reps 256 (.bool false))), true⟩ := by kernel_rfl
theorem ti82 : tinfo Tryd.prog 82 = some ⟨.ar 256 4, 256, 256, .agg (pcells (reps 256 (.bool false))), true⟩ := by kernel_rfl
theorem ti84 : tinfo Tryd.prog 84 = some ⟨.fn, 1, 8, .p .nilf, true⟩ := by kernel_rfl
theorem ti85 : tinfo Tryd.prog 85 = some ⟨.fn, 1, 8, .p .nilf, true⟩ := by kernel_rfl
theorem ti86 : tinfo Tryd.prog 86 = some ⟨.ptr 82, 1, 8, .p .nilp, true⟩ := by kernel_rfl
theorem ti87 : tinfo Tryd.prog 87 = some ⟨.fn, 1, 8, .p .nilf, true⟩ := by kernel_rfl
theorem ti88 : tinfo Tryd.prog 88 = some ⟨.int .u64, 1, 8, .p (.int .u64 0), true⟩ := by kernel_rfl
theorem ti90 : tinfo Tryd.prog 90 = some ⟨.fn, 1, 8, .p .nilf, true⟩ := by kernel_rfl
theorem ti91 : tinfo Tryd.prog 91 = some ⟨.int .u32, 1, 4, .p (.int .u32 0), true⟩ := by kernel_rfl
theorem ti92 : tinfo Tryd.prog 92 = some ⟨.fn, 1, 8, .p .nilf, true⟩ := by kernel_rfl
theorem ti93 : tinfo Tryd.prog 93 = some ⟨.fn, 1, 8, .p .nilf, true⟩ := by kernel_rfl
theorem ti94 : tinfo Tryd.prog 94 = some ⟨.ar 24 5, 24, 24, .agg (pcells (reps 24 (.int .u8 0))), true⟩ := by kernel_rfl
theorem ti95 : tinfo Tryd.prog 95 = some ⟨.fn, 1, 8, .p .nilf, true⟩ := by kernel_rfl
theorem ti96 : tinfo Tryd.prog 96 = some ⟨.fn, 1, 8, .p .nilf, true⟩ := by kernel_rfl
theorem ti98 : tinfo Tryd.prog 98 = some ⟨.fn, 1, 8, .p .nilf, true⟩ := by kernel_rfl
theorem ti99 : tinfo Tryd.prog 99 = some ⟨.fn, 1, 8, .p .nilf, true⟩ := by kernel_rfl
theorem ti100 : tinfo Tryd.prog 100 = some ⟨.fn, 1, 8, .p .nilf, true⟩ := by kernel_rfl
theorem ti101 : tinfo Tryd.prog 101 = some ⟨.fn, 1, 8, .p .nilf, true⟩ := by kernel_rfl
theorem ti102 : tinfo Tryd.prog 102 = some ⟨.ar 20 88, 20, 160, .agg (pcells (reps 20 (.int .u64 0))), true⟩ := by kernel_rfl
theorem ti103 : tinfo Tryd.prog 103 = some ⟨.ar 65 5, 65, 65, .agg (pcells (reps 65 (.int .u8 0))), true⟩ := by kernel_rfl
theorem ti104 : tinfo Tryd.prog 104 = some ⟨.fn, 1, 8, .p .nilf, true⟩ := by kernel_rfl
theorem ti105 : tinfo Tryd.prog 105 = some ⟨.fn, 1, 8, .p .nilf, true⟩ := by kernel_rfl
theorem ti106 : tinfo Tryd.prog 106 = some ⟨.fn, 1, 8, .p .nilf, true⟩ := by kernel_rfl
theorem ti107 : tinfo Tryd.prog 107 = some ⟨.fn, 1, 8, .p .nilf, true⟩ := by kernel_rfl
theorem ti108 : tinfo Tryd.prog 108 = some ⟨.fn, 1, 8, .p .nilf, true⟩ := by kernel_rfl
theorem ti109 : tinfo Tryd.prog 109 = some ⟨.ar 32 5, 32, 32, .agg (pcells (reps 32 (.int .u8 0))), true⟩ := by kernel_rfl
theorem ti110 : tinfo Tryd.prog 110 = some ⟨.ar 64 5, 64, 64, .agg (pcells (reps 64 (.int .u8 0))), true⟩ := by kernel_rfl
theorem ti118 : tinfo Tryd.prog 118 = some ⟨.fn, 1, 8, .p .nilf, true⟩ := by kernel_rfl
@[simp] theorem T_0 : T 0 = none := rfl
@[simp] theorem T_1 : T 1 = some ⟨.fn, 1, 8, .p .nilf, true⟩ := rfl
@[simp] theorem T_2 : T 2 = some ⟨.int .i64, 1, 8, .p (.int .i64 0), true⟩ := rfl
@[simp] theorem T_3 : T 3 = some ⟨.int .i64, 1, 8, .p (.int .i64 0), true⟩ := rfl
@[simp] theorem T_4 : T 4 = some ⟨.bool, 1, 1, .p (.bool false), true⟩ := rfl
@[simp] theorem T_5 : T 5 = some ⟨.int .u8, 1, 1, .p (.int .u8 0), true⟩ := rfl
@[simp] theorem T_6 : T 6 = none := rfl
@[simp] theorem T_7 : T 7 = none := rfl
@[simp] theorem T_8 : T 8 = none := rfl
@[simp] theorem T_9 : T 9 = some ⟨.str, 1, 16, .p (.str []), true⟩ := rfl
@[simp] theorem T_10 : T 10 = none := rfl
@[simp] theorem T_11 : T 11 = none := rfl
@[simp] theorem T_12 : T 12 = some ⟨.int .u64, 1, 8, .p (.int .u64 0), true⟩ := rfl
@[simp] theorem T_13 : T 13 = none := rfl
@[simp] theorem T_14 : T 14 = none := rfl
@[simp] theorem T_15 : T 15 = none := rfl
@[simp] theorem T_16 : T 16 = none := rfl
@[simp] theorem T_17 : T 17 = none := rfl
@[simp] theorem T_18 : T 18 = none := rfl
@[simp] theorem T_19 : T 19 = none := rfl
@[simp] theorem T_20 : T 20 = none := rfl
@[simp] theorem T_21 : T 21 = some ⟨.int .i32, 1, 4, .p (.int .i32 0), true⟩ := rfl
@[simp] theorem T_22 : T 22 = some ⟨.sl 29, 1, 24, .nilsl, true⟩ := rfl
@[simp] theorem T_23 : T 23 = some ⟨.fn, 1, 8, .p .nilf, true⟩ := rfl
@[simp] theorem T_24 : T 24 = some ⟨.fn, 1, 8, .p .nilf, true⟩ := rfl
@[simp] theorem T_25 : T 25 = some ⟨.int .i64, 1, 8, .p (.int .i64 0), true⟩ := rfl
@[simp] theorem T_26 : T 26 = some ⟨.fn, 1, 8, .p .nilf, true⟩ := rfl
@[simp] theorem T_27 : T 27 = some ⟨.fn, 1, 8, .p .nilf, true⟩ := rfl
@[simp] theorem T_28 : T 28 = some ⟨.st [(0, 3), (1, 9), (2, 3)], 3, 32, .agg [.p (.int .i64 0), .p (.str []), .p (.int .i64 0)], true⟩ := rfl
@[simp] theorem T_29 : T 29 = some ⟨.st [(0, 3), (1, 9), (2, 3)], 3, 32, .agg [.p (.int .i64 0), .p (.str []), .p (.int .i64 0)], true⟩ := rfl
@[simp] theorem T_30 : T 30 = some ⟨.fn, 1, 8, .p .nilf, true⟩ := rfl
@[simp] theorem T_31 : T 31 = none := rfl
@[simp] theorem T_32 : T 32 = some ⟨.fn, 1, 8, .p .nilf, true⟩ := rfl
@[simp] theorem T_33 : T 33 = some ⟨.fn, 1, 8, .p .nilf, true⟩ := rfl
@[simp] theorem T_34 : T 34 = some ⟨.fn, 1, 8, .p .nilf, true⟩ := rfl
@[simp] theorem T_35 : T 35 = some ⟨.fn, 1, 8, .p .nilf, true⟩ := rfl
@[simp] theorem T_36 : T 36 = some ⟨.fn, 1, 8, .p .nilf, true⟩ := rfl
@[simp] theorem T_37 : T 37 = some ⟨.fn, 1, 8, .p .nilf, true⟩ := rfl
@[simp] theorem T_38 : T 38 = some ⟨.sl 4, 1, 24, .nilsl, true⟩ := rfl
@[simp] theorem T_39 : T 39 = some ⟨.fn, 1, 8, .p .nilf, true⟩ := rfl
@[simp] theorem T_40 : T 40 = some ⟨.fn, 1, 8, .p .nilf, true⟩ := rfl
@[simp] theorem T_41 : T 41 = none := rfl
@[simp] theorem T_42 : T 42 = some ⟨.fn, 1, 8, .p .nilf, true⟩ := rfl
@[simp] theorem T_43 : T 43 = some ⟨.fn, 1, 8, .p .nilf, true⟩ := rfl
@[simp] theorem T_44 : T 44 = some ⟨.fn, 1, 8, .p .nilf, true⟩ := rfl
@[simp] theorem T_45 : T 45 = some ⟨.fn, 1, 8, .p .nilf, true⟩ := rfl
@[simp] theorem T_46 : T 46 = none := rfl
@[simp] theorem T_47 : T 47 = some ⟨.fn, 1, 8, .p .nilf, true⟩ := rfl
@[simp] theorem T_48 : T 48 = some ⟨.fn, 1, 8, .p .nilf, true⟩ := rfl
@[simp] theorem T_49 : T 49 = some ⟨.fn, 1, 8, .p .nilf, true⟩ := rfl
@[simp] theorem T_50 : T 50 = none := rfl
@[simp] theorem T_51 : T 51 = some ⟨.fn, 1, 8, .p .nilf, true⟩ := rfl
@[simp] theorem T_52 : T 52 = some ⟨.ptr 55, 1, 8, .p .nilp, true⟩ := rfl
@[simp] theorem T_53 : T 53 = some ⟨.sl 5, 1, 24, .nilsl, true⟩ := rfl
@[simp] theorem T_54 : T 54 = some ⟨.st [(0, 52), (1, 53)], 2, 32, .agg [.p .nilp, .nilsl], true⟩ := rfl
@[simp] theorem T_55 : T 55 = some ⟨.st [(0, 52), (1, 53)], 2, 32, .agg [.p .nilp, .nilsl], true⟩ := rfl
@[simp] theorem T_56 : T 56 = none := rfl
@[simp] theorem T_57 : T 57 = some ⟨.fn, 1, 8, .p .nilf, true⟩ := rfl
@[simp] theorem T_58 : T 58 = some ⟨.fn, 1, 8, .p .nilf, true⟩ := rfl
@[simp] theorem T_59 : T 59 = some ⟨.fn, 1, 8, .p .nilf, true⟩ := rfl
@[simp] theorem T_60 : T 60 = none := rfl
@[simp] theorem T_61 : T 61 = some ⟨.fn, 1, 8, .p .nilf, true⟩ := rfl
@[simp] theorem T_62 : T 62 = none := rfl
@[simp] theorem T_63 : T 63 = none := rfl
@[simp] theorem T_64 : T 64 = none := rfl
@[simp] theorem T_65 : T 65 = some ⟨.fn, 1, 8, .p .nilf, true⟩ := rfl
@[simp] theorem T_66 : T 66 = some ⟨.fn, 1, 8, .p .nilf, true⟩ := rfl
@[simp] theorem T_67 : T 67 = some ⟨.fn, 1, 8, .p .nilf, true⟩ := rfl
@[simp] theorem T_68 : T 68 = some ⟨.fn, 1, 8, .p .nilf, true⟩ := rfl
@[simp] theorem T_69 : T 69 = some ⟨.fn, 1, 8, .p .nilf, true⟩ := rfl
@[simp] theorem T_70 : T 70 = some ⟨.int .u64, 1, 8, .p (.int .u64 0), true⟩ := rfl
@[simp] theorem T_71 : T 71 = some ⟨.fn, 1, 8, .p .nilf, true⟩ := rfl
@[simp] theorem T_72 : T 72 = some ⟨.ar 256 5, 256, 256, .agg (pcells (reps 256 (.int .u8 0))), true⟩ := rfl
@[simp] theorem T_73 : T 73 = some ⟨.st [(0, 5), (1, 5)], 2, 2, .agg [.p (.int .u8 0), .p (.int .u8 0)], true⟩ := rfl
@[simp] theorem T_74 : T 74 = some ⟨.st [(0, 5), (1, 5)], 2, 2, .agg [.p (.int .u8 0), .p (.int .u8 0)], true⟩ := rfl
@[simp] theorem T_75 : T 75 = some ⟨.ar 16 74, 32, 32, .agg (pcells (reps 32 (.int .u8 0))), true⟩ := rfl
@[simp] theorem T_76 : T 76 = some ⟨.ptr 5, 1, 8, .p .nilp, true⟩ := rfl
@[simp] theorem T_77 : T 77 = none := rfl
@[simp] theorem T_78 : T 78 = some ⟨.fn, 1, 8, .p .nilf, true⟩ := rfl
@[simp] theorem T_79 : T 79 = some ⟨.fn, 1, 8, .p .nilf, true⟩ := rfl
@[simp] theorem T_80 : T 80 = some ⟨.fn, 1, 8, .p .nilf, true⟩ := rfl
@[simp] theorem T_81 : T 81 = some ⟨.ar 256 4, 256, 256, .agg (pcells (reps 256 (.bool false))), true⟩ := rfl
@[simp] theorem T_82 : T 82 = some ⟨.ar 256 4, 256, 256, .agg (pcells (reps 256 (.bool false))), true⟩ := rfl
@[simp] theorem T_83 : T 83 = none := rfl
@[simp] theorem T_84 : T 84 = some ⟨.fn, 1, 8, .p .nilf, true⟩ := rfl
@[simp] theorem T_85 : T 85 = some ⟨.fn, 1, 8, .p .nilf, true⟩ := rfl
@[simp] theorem T_86 : T 86 = some ⟨.ptr 82, 1, 8, .p .nilp, true⟩ := rfl
@[simp] theorem T_87 : T 87 = some ⟨.fn, 1, 8, .p .nilf, true⟩ := rfl
@[simp] theorem T_88 : T 88 = some ⟨.int .u64, 1, 8, .p (.int .u64 0), true⟩ := rfl
@[simp] theorem T_89 : T 89 = none := rfl
@[simp] theorem T_90 : T 90 = some ⟨.fn, 1, 8, .p .nilf, true⟩ := rfl
@[simp] theorem T_91 : T 91 = some ⟨.int .u32, 1, 4, .p (.int .u32 0), true⟩ := rfl
@[simp] theorem T_92 : T 92 = some ⟨.fn, 1, 8, .p .nilf, true⟩ := rfl
@[simp] theorem T_93 : T 93 = some ⟨.fn, 1, 8, .p .nilf, true⟩ := rfl
@[simp] theorem T_94 : T 94 = some ⟨.ar 24 5, 24, 24, .agg (pcells (reps 24 (.int .u8 0))), true⟩ := rfl
@[simp] theorem T_95 : T 95 = some ⟨.fn, 1, 8, .p .nilf, true⟩ := rfl
@[simp] theorem T_96 : T 96 = some ⟨.fn, 1, 8, .p .nilf, true⟩ := rfl
@[simp] theorem T_97 : T 97 = none := rfl
@[simp] theorem T_98 : T 98 = some ⟨.fn, 1, 8, .p .nilf, true⟩ := rfl
@[simp] theorem T_99 : T 99 = some ⟨.fn, 1, 8, .p .nilf, true⟩ := rfl
@[simp] theorem T_100 : T 100 = some ⟨.fn, 1, 8, .p .nilf, true⟩ := rfl
@[simp] theorem T_101 : T 101 = some ⟨.fn, 1, 8, .p .nilf, true⟩ := rfl
@[simp] theorem T_102 : T 102 = some ⟨.ar 20 88, 20, 160, .agg (pcells (reps 20 (.int .u64 0))), true⟩ := rfl
@[simp] theorem T_103 : T 103 = some ⟨.ar 65 5, 65, 65, .agg (pcells (reps 65 (.int .u8 0))), true⟩ := rfl
@[simp] theorem T_104 : T 104 = some ⟨.fn, 1, 8, .p .nilf, true⟩ := rfl
@[simp] theorem T_105 : T 105 = some ⟨.fn, 1, 8, .p .nilf, true⟩ := rfl
@[simp] theorem T_106 : T 106 = some ⟨.fn, 1, 8, .p .nilf, true⟩ := rfl
@[simp] theorem T_107 : T 107 = some ⟨.fn, 1, 8, .p .nilf, true⟩ := rfl
@[simp] theorem T_108 : T 108 = some ⟨.fn, 1, 8, .p .nilf, true⟩ := rfl
@[simp] theorem T_109 : T 109 = some ⟨.ar 32 5, 32, 32, .agg (pcells (reps 32 (.int .u8 0))), true⟩ := rfl
@[simp] theorem T_110 : T 110 = some ⟨.ar 64 5, 64, 64, .agg (pcells (reps 64 (.int .u8 0))), true⟩ := rfl
@[simp] theorem T_111 : T 111 = none := rfl
@[simp] theorem T_112 : T 112 = none := rfl
@[simp] theorem T_113 : T 113 = none := rfl
@[simp] theorem T_114 : T 114 = none := rfl
@[simp] theorem T_115 : T 115 = none := rfl
@[simp] theorem T_116 : T 116 = none := rfl
@[simp] theorem T_117 : T 117 = none := rfl
@[simp] theorem T_118 : T 118 = some ⟨.fn, 1, 8, .p .nilf, true⟩ := rfl
@[simp] theorem T_119 : T 119 = none := rfl
@[simp] theorem T_120 : T 120 = none := rfl
@[simp] theorem T_121 : T 121 = none := rfl
@[simp] theorem T_122 : T 122 = none := rfl
theorem tbl_ok : tblOK Tryd.prog 0 tbl := ⟨ti1, ti2, ti3, ti4, ti5, ti9, ti12, ti21, ti22, ti23, ti24, ti25, ti26, ti27, ti28, ti29, ti30, ti32, ti33, ti34, ti35, ti36, ti37, ti38, ti39, ti40, ti42, ti43, ti44, ti45, ti47, ti48, ti49, ti51, ti52, ti53, ti54, ti55, ti57, ti58, ti59, ti61, ti65, ti66, ti67, ti68, ti69, ti70, ti71, ti72, ti73, ti74, ti75, ti76, ti78, ti79, ti80, ti81, ti82, ti84, ti85, ti86, ti87, ti88, ti90, ti91, ti92, ti93, ti94, ti95, ti96, ti98, ti99, ti100, ti101, ti102, ti103, ti104, ti105, ti106, ti107, ti108, ti109, ti110, ti118, trivial⟩
theorem mixed : Tryd.prog.follows .mixedOrders = true := by kernel_rfl
theorem tok : TOK Tryd.prog T := by
  intro t ti h
  unfold T at h
  cases hx : tbl[t]? with
  | none => rw [hx] at h; cases h
  | some o =>
    rw [hx] at h
    simp only [Option.getD_some] at h
    subst h
    have := tblOK_get tbl_ok hx
    simpa using this
end Go.Proofs.YtdploelkmlbhnaaDoor
