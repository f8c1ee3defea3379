import Derived.Test.YtdojfdaglbphlaaGreatDoorK2
import Derived.Test.YtdojfdaglbphlaaGreatDoorK1
import Derived.Test.YtdojfdaglbphlaaGreatDoorM3
import Derived.Test.YtdojfdaglbphlaaGreatDoorM4
import Derived.Shelf.Strings.Builder1
import Derived.Shelf.Unicode.DecodeAny
import Derived.Lib.MapLaws
namespace Go.Proofs.YtdojfdaglbphlaaGreatDoor
open Sy Go
set_option maxRecDepth 100000
set_option maxHeartbeats 4000000
set_option linter.unusedSimpArgs false
set_option linter.unusedVariables false
variable {G : qQ}
structure Item where
 kind : Int
 many : Int
 mask : Int
 num : List UInt8
 text : List UInt8
 keys : List (List UInt8)
@[simp] def Item.enc (x : Item) : PD := .agg [.int .i64 x.kind, .int .i64 x.many, .int .u64 x.mask, .str x.num, .str x.text, .sl 1 (x.keys.map PD.str)]
def wS (a : Int) : Nat := (a % 2 ^ 64).toNat &&& 7
theorem qII (a : Int) : wS a < 8 := Nat.and_lt_two_pow _ (n := 3) (by decide)
theorem qRS (a : Int) : IntKind.i64.wrap (((a % 2 ^ IntKind.i64.bits).toNat &&& 7 % 2 ^ IntKind.i64.bits : Nat) : Int) = (wS a : Int) := by
 have h := qII a
 have e : ((a % 2 ^ IntKind.i64.bits).toNat &&& 7 % 2 ^ IntKind.i64.bits : Nat) = wS a := rfl
 rw [e]
 simp [IntKind.wrap, IntKind.bits, IntKind.signed]; omega
def qBU (s : List UInt8) : Dc := if (xQ (jQ s)).2 = 0 then (xQ (jQ s)).1 else ⟨false, [55], 0⟩
def qYS (alone : List Val) (x : Item) : Nat := min (wS x.many) alone.length
def zF (alone : List Val) (x : Item) : List Val := if wS x.kind = 5 ∨ wS x.kind = 6 then alone.drop (alone.length - qYS alone x) else []
def zN (alone : List Val) (x : Item) : List Val := if wS x.kind = 5 ∨ wS x.kind = 6 then alone.take (alone.length - qYS alone x) else alone
def wI (alone : List Val) (x : Item) : Val :=
 .mk (wS x.kind + 1) x.mask (if wS x.kind = 3 then qBU x.num else dc0) (if wS x.kind = 4 then qCD x.text else [])
  (if wS x.kind = 6 then qEW x.keys (zF alone x).length else []) (zF alone x) (if wS x.kind = 7 then 40 else 0)
def uY (alone : List Val) (x : Item) : List Val := zN alone x ++ [wI alone x]
def qEA (l : List Item) : List Val := (l.take 80).foldl uY []
def vK (l : List Item) : Val := (qEA l).getLastD qRK
def uC (l : List Item) (k : Nat) : List Val := (l.take k).foldl uY []
theorem qBP {l : List Item} {k : Nat} {x : Item} (h : l[k]? = some x) : uC l (k + 1) = uY (uC l k) x := by
 unfold uC; rw [List.take_add_one, h]; simp
theorem zHK (a : List Val) (x : Item) : (uY a x).length ≤ a.length + 1 := by
 unfold uY zN; split <;> simp <;> omega
theorem qHL (l : List Item) : ∀ k, (uC l k).length ≤ k
 | 0 => by simp [uC]
 | k + 1 => by
  cases h : l[k]? with
  | none =>
   have h1 : uC l (k + 1) = uC l k := by unfold uC; rw [List.take_add_one, h]; simp
   have := qHL l k
   rw [h1]; omega
  | some x =>
   rw [qBP h]
   have := zHK (uC l k) x
   have := qHL l k
   omega
theorem zAK (l : List Item) (hl : ∀ x ∈ l, x.keys.length ≤ 140737488351232) : AFn Tryz.prog G 10 [.sl 6 (l.map Item.enc)] ((vK l).enc) := by
 refine AFn.introU tok Tryz.func10 (by kernel_rfl) rfl rfl ?_
 simp only [Tryz.f10, qJ, List.map_cons, List.map_nil]
 refine rgn [] [[]] ?_
 refine op1 tok ?_
 refine qA ?_
 refine rgn [] [[], [0, 2, 3]] ?_
 iterate 2 refine op1 tok ?_
 refine qA ?_
 refine AW.seq ?_
 refine rgn [] [[]] ?_
 refine op1 tok ?_
 refine qA ?_
 refine AW.block ?_
 refine AW.loop (α := Nat) (fun k => k ≤ l.length ∧ k ≤ 80) (fun k => ⟨qW 121 [(0, .p (.sl 6 (l.map Item.enc))), (2, .ptr 2 0), (3, .ms 11), (4, .p (.int .i64 k))], [], [(11, .row 31 9 ((uC l k).map Val.enc)), (2, .vars 31 [.p (.int .i64 0), .p (.int .u64 0), .p (.bool false), .p (.str []), .p (.int .i64 0), .p (.str []), .nilsl, .nilsl, .p (.int .i64 0)])], 0⟩) (fun k => l.length - k) (0) ⟨by omega, by omega⟩ ⟨qB (by simp), rfl, by simp [uC], by simp⟩ ?_
 rintro k ⟨hk, hk8⟩
 have hal := qHL l k
 generalize haa : uC l k = alone at *
 refine AW.seq ?_
 refine rgn [] [[], [], [], [], [0, 2, 3, 4, 16], [], [], [0, 2, 3, 4, 19]] ?_
 iterate 5 refine op1 tok ?_
 iterate 2 refine op2 tok ?_
 refine op1 tok ?_
 refine qA ?_
 refine cnd ?_ ?_
 ·intro h19
  try simp at h19
  obtain ⟨x, hx⟩ : ∃ x, l[k]? = some x := ⟨l[k], by simp [h19.1]⟩
  have hsh := qXC (G := G) x.num
  have hpa := zAH (G := G) (jQ x.num) (by have := qGU x.num; omega)
  have hwo := zDF (G := G) x.text
  have h3k := qII x.kind
  have hxl := hl x (List.mem_of_getElem? hx)
  refine AW.skip ?_
  refine AW.seq ?_
  refine AW.block ?_
  refine rgn [x.enc] [[], [], [], [], [0, 2, 3, 4, 26], [], [0, 2, 3, 4, 5]] ?_
  iterate 7 refine op1 tok ?_ (h := by intro C; conv => lhs; simp [qRS]) (hv := by first | with_reducible exact True.intro | (simp [hx]; done) | omega | simp | (simp +contextual; omega))
  refine qA ?_
  refine rgn [x.enc] [[], [], [], [], [0, 2, 3, 4, 29, 32], [], [], [0, 2, 3, 4, 35], [], [0, 2, 3, 4, 6]] ?_
  iterate 10 refine op1 tok ?_ (hv := by first | with_reducible exact True.intro | (simp [hx]; done) | omega | simp | (simp +contextual; omega))
  refine qA ?_
  refine AW.join (α := Unit) (fun _ => True) (fun a => ⟨qW 121 [(0, .p (.sl 6 (l.map Item.enc))), (2, .ptr 2 0), (3, .ms 11), (4, .p (.int .i64 k)), (6, .ptr 6 0)], [], [(11, .row 31 9 ((zN alone x).map Val.enc)), (2, .vars 31 [.p (.int .i64 0), .p (.int .u64 0), .p (.bool false), .p (.str []), .p (.int .i64 0), .p (.str []), .nilsl, .nilsl, .p (.int .i64 0)]), (6, .vars 31 [.p (.int .i64 (wS x.kind + 1)), .p (.int .u64 x.mask), .p (.bool (wI alone x).num.neg), .p (.str (wI alone x).num.digits), .p (.int .i64 (wI alone x).num.scale), .p (.str (wI alone x).text), .p (.sl 1 []), .p (.sl 9 ((zF alone x).map Val.enc)), .p (.int .i64 (wI alone x).code)])], 0⟩) ?_ ?_
  ·
   refine AW.seqRegionO [] ?_
   refine qC.fill 6 [none, none, none, none, none, none, some 1, some 9] (by conv => lhs; simp) ?_
   refine qC.run [[], [0, 2, 3, 4, 6, 37]] ?_
   iterate 2 refine op1 tok ?_
   refine qA ?_
   refine AW.block ?_
   refine rgn [] [[], [0, 2, 3, 4, 6, 37, 38]] ?_
   iterate 2 refine op1 tok ?_
   refine qA ?_
   refine cnd ?_ ?_
   ·intro h38
    try simp at h38
    have hq : wS x.kind = 3 := by omega
    refine rgn [x.enc, .nilp, .str (jQ x.num), .nilp, .tup [(xQ (jQ x.num)).1.enc, .int .i64 (xQ (jQ x.num)).2]] [[], [], [], [], [0, 2, 3, 4, 6, 45], [], [], [], [], [0, 2, 3, 4, 6, 48, 49], [], [], [0, 2, 3, 4, 6, 7, 8]] ?_
    iterate 13 refine op1 tok ?_ (hv := by first | with_reducible exact True.intro | (first | exact hsh | exact hpa | simp [hx]; done) | omega | simp | (simp +contextual; omega))
    refine qA ?_
    refine AW.seq ?_
    refine rgn [] [[], [0, 2, 3, 4, 6, 7, 51]] ?_
    iterate 2 refine op1 tok ?_
    refine qA ?_
    refine cnd ?_ ?_
    ·intro h51
     try simp at h51
     refine rgz [] [[], [0, 2, 3, 4, 6, 7]] ?_
     iterate 2 refine op1 tok ?_
     refine qA ?_
     refine rgz [] [[], [], [0, 2, 3, 4, 6]] ?_
     iterate 3 refine op1 tok ?_
     refine qA ?_
     exact ⟨(), trivial, qB (by simp [zN, wI, zF, qBU, dc0, Val.num, Val.text, Val.code, Val.keys, Val.kids, hq, h51]), rfl, by simp [zN, wI, zF, qBU, dc0, Val.num, Val.text, Val.code, Val.keys, Val.kids, hq, h51], by simp [zN, wI, zF, qBU, dc0, Val.num, Val.text, Val.code, Val.keys, Val.kids, hq, h51]⟩
    ·intro h51
     try simp at h51
     refine AW.skip ?_
     refine rgz [] [[], [], [0, 2, 3, 4, 6]] ?_
     iterate 3 refine op1 tok ?_
     refine qA ?_
     exact ⟨(), trivial, qB (by simp [zN, wI, zF, qBU, dc0, Val.num, Val.text, Val.code, Val.keys, Val.kids, hq, h51]), rfl, by simp [zN, wI, zF, qBU, dc0, Val.num, Val.text, Val.code, Val.keys, Val.kids, hq, h51], by simp [zN, wI, zF, qBU, dc0, Val.num, Val.text, Val.code, Val.keys, Val.kids, hq, h51]⟩
   ·intro h38
    try simp at h38
    refine rgn [] [[], [0, 2, 3, 4, 6, 37, 55]] ?_
    iterate 2 refine op1 tok ?_
    refine qA ?_
    refine cnd ?_ ?_
    ·intro h55
     try simp at h55
     have hq : wS x.kind = 4 := by omega
     refine rgz [x.enc, .nilp, .str (qCD x.text)] [[], [], [], [], [0, 2, 3, 4, 6, 61], [], [], [0, 2, 3, 4, 6]] ?_
     iterate 8 refine op1 tok ?_ (hv := by first | with_reducible exact True.intro | (first | exact hwo | simp [hx]; done) | omega | simp | (simp +contextual; omega))
     refine qA ?_
     exact ⟨(), trivial, qB (by simp [zN, wI, zF, qBU, dc0, Val.num, Val.text, Val.code, Val.keys, Val.kids, hq]), rfl, by simp [zN, wI, zF, qBU, dc0, Val.num, Val.text, Val.code, Val.keys, Val.kids, hq], by simp [zN, wI, zF, qBU, dc0, Val.num, Val.text, Val.code, Val.keys, Val.kids, hq]⟩
    ·intro h55
     try simp at h55
     refine rgn [] [[], [0, 2, 3, 4, 6, 37, 64]] ?_
     iterate 2 refine op1 tok ?_
     refine qA ?_
     refine cnd ?_ ?_
     ·intro h64
      try simp at h64
      have hq : wS x.kind = 7 := by omega
      refine rgz [] [[], [0, 2, 3, 4, 6]] ?_
      iterate 2 refine op1 tok ?_
      refine qA ?_
      exact ⟨(), trivial, qB (by simp [zN, wI, zF, qBU, dc0, Val.num, Val.text, Val.code, Val.keys, Val.kids, hq]), rfl, by simp [zN, wI, zF, qBU, dc0, Val.num, Val.text, Val.code, Val.keys, Val.kids, hq], by simp [zN, wI, zF, qBU, dc0, Val.num, Val.text, Val.code, Val.keys, Val.kids, hq]⟩
     ·intro h64
      try simp at h64
      refine AW.join (α := Unit) (fun _ => True) (fun a => ⟨qW 121 [(0, .p (.sl 6 (l.map Item.enc))), (2, .ptr 2 0), (3, .ms 11), (4, .p (.int .i64 k)), (6, .ptr 6 0), (67, .p (.bool (decide (wS x.kind = 5 ∨ wS x.kind = 6))))], [], [(11, .row 31 9 (alone.map Val.enc)), (2, .vars 31 [.p (.int .i64 0), .p (.int .u64 0), .p (.bool false), .p (.str []), .p (.int .i64 0), .p (.str []), .nilsl, .nilsl, .p (.int .i64 0)]), (6, .vars 31 [.p (.int .i64 (wS x.kind + 1)), .p (.int .u64 x.mask), .p (.bool false), .p (.str []), .p (.int .i64 0), .p (.str []), .p (.sl 1 []), .p (.sl 9 []), .p (.int .i64 0)])], 0⟩) ?_ ?_
      ·
       refine rgn [] [[], [0, 2, 3, 4, 6, 37, 67]] ?_
       iterate 2 refine op1 tok ?_
       refine qA ?_
       refine cnd ?_ ?_
       ·intro h67
        try simp at h67
        refine AW.skip ?_
        exact ⟨(), trivial, qB (by simp [show (wS x.kind = 5 ∨ wS x.kind = 6) = True from eq_true (by omega), h67]), rfl, by simp [show (wS x.kind = 5 ∨ wS x.kind = 6) = True from eq_true (by omega), h67], by simp [show (wS x.kind = 5 ∨ wS x.kind = 6) = True from eq_true (by omega), h67]⟩
       ·intro h67
        try simp at h67
        refine rgz [] [[], [0, 2, 3, 4, 6, 67]] ?_
        iterate 2 refine op1 tok ?_
        refine qA ?_
        exact ⟨(), trivial, qB (by simp [show (wS x.kind = 5 ∨ wS x.kind = 6) = (wS x.kind = 6) from propext (by omega), show ((wS x.kind : Int) + 1 = 7) = (wS x.kind = 6) from propext (by omega)]), rfl, by simp [show (wS x.kind = 5 ∨ wS x.kind = 6) = (wS x.kind = 6) from propext (by omega), show ((wS x.kind : Int) + 1 = 7) = (wS x.kind = 6) from propext (by omega)], by simp [show (wS x.kind = 5 ∨ wS x.kind = 6) = (wS x.kind = 6) from propext (by omega), show ((wS x.kind : Int) + 1 = 7) = (wS x.kind = 6) from propext (by omega)]⟩
      ·
       rintro a hI
       refine cnd ?_ ?_
       ·intro h67
        try simp at h67
        have hmany := qII x.many
        have hkn : ((alone.length : Int) - if alone.length < wS x.many then (alone.length : Int) else (wS x.many : Int)).toNat = alone.length - qYS alone x := by unfold qYS; split <;> omega
        have hq3 : ¬ wS x.kind = 3 := by omega
        have hq4 : ¬ wS x.kind = 4 := by omega
        have hq7 : ¬ wS x.kind = 7 := by omega
        refine rgn [x.enc] [[], [], [], [], [0, 2, 3, 4, 6, 74], [], [], [], [0, 2, 3, 4, 6, 78], [0, 2, 3, 4, 6, 9]] ?_
        iterate 10 refine op1 tok ?_ (h := by intro C; conv => lhs; simp [qRS]) (hv := by first | with_reducible exact True.intro | (simp [hx]; done) | omega | simp | (simp +contextual; omega))
        refine qA ?_
        refine rgn [] [[], [], [], [0, 2, 3, 4, 6, 82], [0, 2, 3, 4, 6, 10]] ?_
        iterate 5 refine op1 tok ?_
        refine qA ?_
        refine AW.seqRegionO [] ?_
        refine qC.freeze 11 (by conv => lhs; simp) ?_
        refine qC.run [[], [], [], [], [0, 2, 3, 4, 6, 10, 87], [], [0, 2, 3, 4, 6, 10]] ?_
        iterate 7 refine op1 tok ?_
        refine qA ?_
        refine rgz [] [[], [], [], [0, 2, 4, 6, 89, 92], []] ?_
        iterate 5 refine op1 tok ?_
        refine qV ?_
        refine qC.take 89 11 (by conv => lhs; simp) ?_
        refine qC.freeze 83 (by conv => lhs; simp) ?_
        refine qC.run [[0, 2, 3, 4, 6]] ?_
        refine op1 tok ?_
        refine qA ?_
        exact ⟨(), trivial, qB (by simp [zN, wI, zF, qBU, dc0, Val.num, Val.text, Val.code, Val.keys, Val.kids, hq3, hq4, hq7, hkn, h67, show List.take alone.length (alone.map Val.enc) = alone.map Val.enc from List.take_of_length_le (by simp)]), rfl, by simp [zN, wI, zF, qBU, dc0, Val.num, Val.text, Val.code, Val.keys, Val.kids, hq3, hq4, hq7, hkn, h67, show List.take alone.length (alone.map Val.enc) = alone.map Val.enc from List.take_of_length_le (by simp)], by simp [zN, wI, zF, qBU, dc0, Val.num, Val.text, Val.code, Val.keys, Val.kids, hq3, hq4, hq7, hkn, h67, show List.take alone.length (alone.map Val.enc) = alone.map Val.enc from List.take_of_length_le (by simp)]⟩
       ·intro h67
        try simp at h67
        have hq3 : ¬ wS x.kind = 3 := by omega
        have hq4 : ¬ wS x.kind = 4 := by omega
        have hq7 : ¬ wS x.kind = 7 := by omega
        refine AW.skip ?_
        exact ⟨(), trivial, qB (by simp [zN, wI, zF, qBU, dc0, Val.num, Val.text, Val.code, Val.keys, Val.kids, hq3, hq4, hq7, h67]), rfl, by simp [zN, wI, zF, qBU, dc0, Val.num, Val.text, Val.code, Val.keys, Val.kids, hq3, hq4, hq7, h67], by simp [zN, wI, zF, qBU, dc0, Val.num, Val.text, Val.code, Val.keys, Val.kids, hq3, hq4, hq7, h67]⟩
  ·
   rintro a hI
   refine AW.join (α := Unit) (fun _ => True) (fun a => ⟨qW 121 [(0, .p (.sl 6 (l.map Item.enc))), (2, .ptr 2 0), (3, .ms 11), (4, .p (.int .i64 k)), (6, .ptr 6 0)], [], [(11, .row 31 9 ((zN alone x).map Val.enc)), (2, .vars 31 [.p (.int .i64 0), .p (.int .u64 0), .p (.bool false), .p (.str []), .p (.int .i64 0), .p (.str []), .nilsl, .nilsl, .p (.int .i64 0)]), (6, .vars 31 [.p (.int .i64 (wI alone x).kind), .p (.int .u64 (wI alone x).mask), .p (.bool (wI alone x).num.neg), .p (.str (wI alone x).num.digits), .p (.int .i64 (wI alone x).num.scale), .p (.str (wI alone x).text), .p (.sl 1 ((wI alone x).keys.map PD.str)), .p (.sl 9 ((wI alone x).kids.map Val.enc)), .p (.int .i64 (wI alone x).code)])], 0⟩) ?_ ?_
   ·
    refine rgn [] [[], [], [0, 2, 3, 4, 6, 96]] ?_
    iterate 3 refine op1 tok ?_
    refine qA ?_
    refine cnd ?_ ?_
    ·intro h96
     try simp at h96
     have hq : wS x.kind = 6 := by omega
     have hkl : (zF alone x).length ≤ 100000 := by unfold zF; split <;> simp <;> omega
     have hna := zKS (G := G) x.keys (zF alone x).length hxl hkl
     refine AW.runDrawK tok mixed [0, 2, 3, 4, 6] 9 [[0], [4], [97, 98], [99], [100], [6], [102], [103], [101, 104]] [x.enc, .nilp, .sl 1 ((qEW x.keys (zF alone x).length).map PD.str)] [] (by kernel_rfl) (by intro C; conv => lhs; simp) (by first | (simp [hx]; done) | (simp [hx]; exact hna)) (by simp [Sm.sum, Sm.foot, Sm.tch, Sm.refs]; kernel_rfl) (by intro C; conv => lhs; simp) (by first | with_reducible exact True.intro | omega | simp | (simp +contextual; omega)) ?_
     exact ⟨(), trivial, qB (by simp [wI, Val.kind, Val.mask, Val.keys, Val.kids, hq]), rfl, by simp [wI, Val.kind, Val.mask, Val.keys, Val.kids, hq], by simp [wI, Val.kind, Val.mask, Val.keys, Val.kids, hq]⟩
    ·intro h96
     try simp at h96
     have hq : ¬ wS x.kind = 6 := by omega
     refine AW.skip ?_
     exact ⟨(), trivial, qB (by simp [wI, Val.kind, Val.mask, Val.keys, Val.kids, hq]), rfl, by simp [wI, Val.kind, Val.mask, Val.keys, Val.kids, hq], by simp [wI, Val.kind, Val.mask, Val.keys, Val.kids, hq]⟩
   ·
    rintro a hI
    have hrl : (zN alone x).length ≤ alone.length := by unfold zN; split <;> simp <;> omega
    refine rgz [(wI alone x).enc] [[], [], [], [0, 2, 4, 110], [0, 2, 3, 4]] ?_
    iterate 5 refine op1 tok ?_ (hv := by first | with_reducible exact True.intro | (first | (simp; done) | (simp; omega) | omega; done) | omega | simp | (simp +contextual; omega))
    refine qA ?_
    refine rgz [] [[], [], [0, 2, 3, 4]] ?_
    iterate 3 refine op1 tok ?_
    refine qA ?_
    exact ⟨k + 1, ⟨by omega, by omega⟩, by omega, qB (by simp [haa, qBP hx, uY]), rfl, by simp [haa, qBP hx, uY], by simp [haa, qBP hx, uY]⟩
 ·intro h19
  try simp at h19
  have hfin : qEA l = alone := by
   rw [← haa]; unfold qEA uC
   congr 1
   by_cases h : k = 80
   ·rw [h]
   ·have hkl : k = l.length := by omega
    rw [hkl, List.take_length, List.take_of_length_le (by omega)]
  refine AW.exit ?_
  simp
  refine AW.seq ?_
  refine rgn [] [[], [], [2, 3, 113]] ?_
  iterate 3 refine op1 tok ?_
  refine qA ?_
  refine cnd ?_ ?_
  ·intro h113
   try simp at h113
   have hB : vK l = qRK := by simp [vK, hfin, h113]
   refine rgn [] [[], [2]] ?_
   iterate 2 refine op1 tok ?_
   refine qA ?_
   exact AW.ret (qI (k := by simp [hB, qRK, dc0, Val.kind, Val.mask, Val.num, Val.text, Val.keys, Val.kids, Val.code]))
  ·intro h113
   try simp at h113
   have hlast : alone[alone.length - 1]? = some (vK l) := by
    rw [vK, hfin, List.getLastD_eq_getLast?, List.getLast?_eq_getElem?]
    have : alone.length - 1 < alone.length := by
     have : alone ≠ [] := h113
     have := List.length_pos_iff.2 this; omega
    simp [this]
   have hpos : 0 < alone.length := List.length_pos_iff.2 h113
   refine AW.skip ?_
   refine rgn [(vK l).enc] [[], [], [], [], [2, 119], [], [2]] ?_
   iterate 7 refine op1 tok ?_ (hv := by first | with_reducible exact True.intro | (simp [hlast]; done) | omega | simp | (simp +contextual; omega))
   refine qA ?_
   exact AW.ret qI
theorem jF {v : Val} (h1 : 1 ≤ v.kind ∧ v.kind ≤ 8 ∧ v.kids.length ≤ 200) (h2 : v.kind = 8 ↔ v.code ≠ 0) (h3 : v.kind = 4 → zP v.num = true) (h3' : v.kind ≠ 4 → v.num = dc0)
  (h4 : v.kind = 5 → jN v.text = true) (h4' : v.kind ≠ 5 → v.text = []) (h5 : v.kind = 7 → v.keys.length = v.kids.length ∧ qBO v.keys = true) (h5' : v.kind ≠ 7 → v.keys = []) (h6 : v.kids = [] ∨ v.kind = 6 ∨ v.kind = 7)
  (h7 : ∀ k ∈ v.kids, qT k = true) : qT v = true := by
 rw [kW]
 simp only [Bool.and_eq_true, vV]
 refine ⟨⟨by simp [uF]; omega, ⟨⟨⟨⟨?_, ?_⟩, ?_⟩, ?_⟩, ?_⟩⟩, List.all_eq_true.2 h7⟩
 ·unfold qOZ
  by_cases h : v.kind = 8
  ·simp [h, h2.1 h]
  ·have : v.code = 0 := by by_cases hc : v.code = 0; · exact hc
                           ·exact (h (h2.2 hc)).elim
   simp [h, this]
 ·unfold qXW
  by_cases h : v.kind = 4
  ·rw [if_pos h]; exact h3 h
  ·rw [if_neg h, h3' h]; simp [dc0]
 ·unfold qHT
  by_cases h : v.kind = 5
  ·rw [if_pos h]; exact h4 h
  ·rw [if_neg h, h4' h]; simp
 ·unfold qDJ
  by_cases h : v.kind = 7
  ·rw [if_pos h, (h5 h).1, (h5 h).2]; simp
  ·rw [if_neg h, h5' h]; simp
 ·unfold qOF
  rcases h6 with h | h | h <;> simp [h]
theorem qWH (s : List UInt8) : jN (qCD s) = true := by
 have hl := qQL s
 unfold jN
 rw [qWJ]
 have : qEL (qCD s) = true := by
  unfold qCD
  split
  ·assumption
  ·decide +kernel
 rw [this]; simp; omega
theorem zAR {n : Nat} (h : n ≤ 4096) (hv : qEL (qAW n) = true) : jN (qAW n) = true := by
 unfold jN; rw [qWJ, hv]; simp [qAW]; omega
theorem zCD : ∀ n, n ≤ 9 → qEL (qAW n) = true := by decide +kernel
theorem zBV {l : List (List UInt8)} {i many : Nat} (hi : i ≤ l.length + many) (hm : many ≤ 8) : jN (xK l i) = true := by
 unfold xK
 split
 ·exact qWH _
 ·exact zAR (by omega) (zCD _ (by omega))
theorem qDK {l : List (List UInt8)} {many : Nat} (hm : many ≤ 8) : ∀ (f i : Nat) (out : List (List UInt8)), i + f = l.length + many + 1 → out.Nodup → (∀ s ∈ out, jN s = true) → out.length ≤ many → (∀ t, 1 ≤ t → t + l.length ≤ i → qAW t ∈ out) →
  (vD l many f i out).Nodup ∧ (∀ s ∈ vD l many f i out, jN s = true) ∧ (vD l many f i out).length = many
 | 0, i, out, hf, _, _, h3, h4 => by
  have := zEM (out := out) (n := many + 1) fun t h1 h2 => h4 t h1 (by omega)
  omega
 | f + 1, i, out, hf, h1, h2, h3, h4 => by
  simp only [vD]
  split
  ·rename_i hlt
   have hw := zBV (l := l) (i := i) (many := many) (by omega) hm
   have hk : ∀ t, 1 ≤ t → t + l.length ≤ i + 1 → qAW t ∈ qKK out (xK l i) := by
    intro t h5 h6
    by_cases h7 : t + l.length ≤ i
    ·have := h4 t h5 h7
     unfold qKK; split
     ·exact this
     ·simp [this]
    ·have : qAW t = xK l i := by simp only [xK]; rw [dif_neg (by omega)]; congr 1; omega
     rw [this]; unfold qKK; split
     ·assumption
     ·simp
   unfold qKK at hk ⊢
   split at hk
   ·rename_i hin
    rw [if_pos hin]
    exact qDK hm f (i + 1) out (by omega) h1 h2 h3 hk
   ·rename_i hin
    rw [if_neg hin]
    refine qDK hm f (i + 1) (out ++ [xK l i]) (by omega) ?_ (fun s hs => ?_) (by simp; omega) hk
    ·rw [List.nodup_append]
     exact ⟨h1, by simp, by intro a ha b hb; simp at hb; subst hb; rintro rfl; exact hin ha⟩
    ·rcases List.mem_append.1 hs with h | h
     ·exact h2 s h
     ·simp at h; rw [h]; exact hw
  ·exact ⟨h1, h2, by omega⟩
theorem zBW {l : List (List UInt8)} {many : Nat} (hm : many ≤ 8) : qBO (qEW l many) = true ∧ (qEW l many).length = many := by
 obtain ⟨h1, h2, h3⟩ := qDK (l := l) hm (l.length + many + 1) 0 [] (by omega) List.nodup_nil (by simp) (by simp) (by intro t h1 h2; omega)
 exact ⟨by unfold qBO; simp only [Bool.and_eq_true, List.all_eq_true, decide_eq_true_eq]; exact ⟨h2, h1⟩, h3⟩
theorem zAY {s : List UInt8} (h : s.all qG = true) : (qR s).all qG = true := by
 rw [List.all_eq_true] at h ⊢
 exact fun b hb => h b ((List.dropWhile_sublist _).subset hb)
theorem qXA {s : List UInt8} (h : qR s ≠ []) : qS (qR s) 0 ≠ 48 := by
 induction s with
 | nil => exact (h rfl).elim
 | cons b s ih =>
  by_cases hb : b = 48
  ·have e : qR (b :: s) = qR s := by simp [qR, hb]
   rw [e] at h ⊢; exact ih h
  ·have e : qR (b :: s) = b :: s := by simp [qR, hb]
   rw [e]
   intro h2
   simp [qS] at h2
   exact hb (UInt8.toNat_inj.1 (by show b.toNat = 48; omega))
theorem qMM : ∀ (k : Nat) (d : List UInt8), (∃ r, d = (kC d k).1 ++ r) ∧ ((kC d k).2 = 0 ∨ (kC d k).1.getLast? ≠ some 48)
 | 0, d => ⟨⟨[], by simp [kC]⟩, .inl rfl⟩
 | k + 1, d => by
  simp only [kC]
  split
  ·obtain ⟨⟨r, hr⟩, h2⟩ := qMM k d.dropLast
   refine ⟨⟨r ++ d.drop (d.length - 1), ?_⟩, h2⟩
   have e : d.dropLast ++ d.drop (d.length - 1) = d := by rw [List.dropLast_eq_take, List.take_append_drop]
   rw [← List.append_assoc, ← hr, e]
  ·rename_i h; exact ⟨⟨[], by simp⟩, .inr h⟩
theorem qKM {neg : Bool} {digits : List UInt8} {scale : Nat} (hd : digits.all qG = true) (h : (yK neg digits scale).2 = 0) : zP (yK neg digits scale).1 = true := by
 unfold yK at h ⊢
 simp only at h ⊢
 obtain ⟨⟨r, hr⟩, hl⟩ := qMM scale (qR digits)
 generalize kC (qR digits) scale = x at *
 split
 ·decide +kernel
 ·rename_i hne
  rw [if_neg hne] at h
  split
  ·rename_i hb; rw [if_pos hb] at h; simp at h
  ·rename_i hb
   have hpos : 0 < x.1.length := List.length_pos_iff.2 hne
   have hall : x.1.all qG = true := by
    have := zAY hd
    rw [hr, List.all_append, Bool.and_eq_true] at this; exact this.1
   have hh : qS x.1 0 ≠ 48 := by
    have h1 := qXA (s := digits) (by rw [hr]; simp [hne])
    rw [hr] at h1
    obtain ⟨c, d, hx⟩ : ∃ c d, x.1 = c :: d := by
     cases hx : x.1 with
     | nil => exact (hne hx).elim
     | cons c d => exact ⟨c, d, rfl⟩
    rw [hx] at h1 ⊢
    simpa [qS] using h1
   rw [zHW (by simp only []; omega) hall]
   simp only
   rw [if_neg (by intro e; rw [e] at hh; exact hh rfl)]
   have hlast : x.2 = 0 ∨ qS x.1 (x.1.length - 1) ≠ 48 := hl.imp id fun h h2 => h ((qFK hpos).1 h2)
   simp [hh]
   exact hlast
theorem zAL (n : Nat) : (zA n).all qG = true := List.all_eq_true.2 fun b hb => by rw [(List.mem_replicate.1 hb).2]; rfl
theorem zHI {neg : Bool} {digits : List UInt8} {sc : Int} (hd : digits.all qG = true) (h : (vE neg digits sc).2 = 0) : zP (vE neg digits sc).1 = true := by
 unfold vE at h ⊢
 split
 ·rename_i hs; rw [if_pos hs] at h; exact qKM (by rw [List.all_append, hd, zAL]; rfl) h
 ·rename_i hs; rw [if_neg hs] at h; exact qKM hd h
theorem zDR (s : List UInt8) (k : Nat) : ((s.take (k + wH s k)).drop k).all qG = true := by
 have e : (s.take (k + wH s k)).drop k = (s.drop k).takeWhile fun b => kU b.toNat := by
  rw [List.drop_take, show k + wH s k - k = wH s k by omega]
  unfold wH
  have : ∀ (l : List UInt8) (p : UInt8 → Bool), l.take (l.takeWhile p).length = l.takeWhile p := by
   intro l p
   induction l with
   | nil => rfl
   | cons a l ih => rw [List.takeWhile_cons]; split
                    ·simp [ih]
                    ·rfl
  exact this _ _
 rw [e, List.all_eq_true]
 have : ∀ (l : List UInt8) (p : UInt8 → Bool) (b : UInt8), b ∈ l.takeWhile p → p b = true := by
  intro l p b
  induction l with
  | nil => intro h; simp at h
  | cons a l ih =>
   intro h
   rw [List.takeWhile_cons] at h
   split at h
   ·rename_i ha
    rcases List.mem_cons.1 h with rfl | h
    ·exact ha
    ·exact ih h
   ·simp at h
 exact fun b hb => this _ _ b hb
theorem qRC {s : List UInt8} {neg : Bool} {digits : List UInt8} {scale : Nat} (hd : digits.all qG = true) : ∀ o, (qEP s neg digits scale o).2 = 0 → zP (qEP s neg digits scale o).1 = true
 | none, h => by simp [qEP, xB] at h
 | some (k, up), h => by
  simp only [qEP] at h ⊢
  split
  ·rename_i hk; rw [if_pos hk] at h; exact zHI hd h
  ·rename_i hk; rw [if_neg hk] at h; simp [xB] at h
theorem zDC {s : List UInt8} (h : (xQ s).2 = 0) : zP (xQ s).1 = true := by
 unfold xQ at h ⊢
 split
 ·rename_i hb; rw [if_pos hb] at h; simp [xB] at h
 ·rename_i hb
  rw [if_neg hb] at h
  have hd := zDR s (a0M s)
  revert h
  generalize (s.take (a0M s + wH s (a0M s))).drop (a0M s) = d0 at *
  generalize a0M s + wH s (a0M s) = k
  intro h
  unfold qIA at h ⊢
  split
  ·rename_i hp
   rw [if_pos hp] at h
   split
   ·rename_i hz; rw [if_pos hz] at h; simp [qWT, xB] at h
   ·rename_i hz
    rw [if_neg hz] at h
    exact qRC (by rw [List.all_append, hd, zDR]; rfl) _ h
  ·rename_i hp
   rw [if_neg hp] at h
   exact qRC hd _ h
theorem zKP (s : List UInt8) : zP (qBU s) = true := by
 unfold qBU
 split
 ·rename_i h; exact zDC h
 ·decide +kernel
theorem qIO (alone : List Val) (x : Item) : (zF alone x).length ≤ 8 := by
 have := qII x.many
 unfold zF qYS; split
 ·simp; omega
 ·simp
theorem qIN {alone : List Val} {x : Item} {k : Val} (h : k ∈ zF alone x) : k ∈ alone := by
 unfold zF at h; split at h
 ·exact List.mem_of_mem_drop h
 ·cases h
theorem zHJ {alone : List Val} (x : Item) (ha : ∀ v ∈ alone, qT v = true) : qT (wI alone x) = true := by
 have hk := qII x.kind
 have hn := zBW (l := x.keys) (qIO alone x)
 have hl := qIO alone x
 have hkid : ¬ (wS x.kind = 5 ∨ wS x.kind = 6) → zF alone x = [] := fun h => by unfold zF; rw [if_neg h]
 have hmem := fun k (hk : k ∈ zF alone x) => ha k (qIN hk)
 unfold wI
 generalize zF alone x = kids at *
 refine jF ?_ ?_ ?_ ?_ ?_ ?_ ?_ ?_ ?_ ?_ <;> simp only [Val.kind_mk, Val.num_mk, Val.text_mk, Val.keys_mk, Val.kids_mk, Val.code_mk]
 ·omega
 ·by_cases h : wS x.kind = 7
  ·simp [h]
  ·simp [h]; omega
 ·intro h; rw [if_pos (by omega)]; exact zKP _
 ·intro h; rw [if_neg (by omega)]
 ·intro h; rw [if_pos (by omega)]; exact qWH _
 ·intro h; rw [if_neg (by omega)]
 ·intro h; rw [if_pos (by omega)]; exact ⟨hn.2, hn.1⟩
 ·intro h; rw [if_neg (by omega)]
 ·by_cases h : wS x.kind = 5 ∨ wS x.kind = 6
  ·right; omega
  ·left; exact hkid h
 ·exact hmem
theorem qTC (l : List Item) : qT (vK l) = true := by
 have key : ∀ (l : List Item) (alone : List Val), (∀ v ∈ alone, qT v = true) → ∀ v ∈ l.foldl uY alone, qT v = true := by
  intro l
  induction l with
  | nil => exact fun alone h => h
  | cons x l ih =>
   intro alone h
   refine ih _ fun v hv => ?_
   unfold uY at hv
   rcases List.mem_append.1 hv with hv | hv
   ·unfold zN at hv; split at hv
    ·exact h v (List.mem_of_mem_take hv)
    ·exact h v hv
   ·simp at hv; rw [hv]; exact zHJ x h
 unfold vK
 rw [List.getLastD_eq_getLast?]
 cases hx : (qEA l).getLast? with
 | none => decide +kernel
 | some v => exact key _ [] (by simp) v (List.mem_of_getLast? hx)
theorem zIC (a b c d e f g : V) (ks kids : List PD) : AX Tryz.prog G 135 [.ptr 902 0] [(902, .vars 31 [a, b, c, d, e, f, .ms 909, .ms 912, g]), (909, .row 9 1 ks), (912, .row 31 9 kids)] (.tuple []) [902, 909, 912] [(902, .vars 31 [a, b, c, d, e, f, .ms 909, .ms 912, g]), (909, .row 9 1 ks), (912, .row 31 9 kids)] := by
 refine AX.introU tok 800 Tryz.func135 (by kernel_rfl) rfl rfl ?_
 simp only [Tryz.f135, qJ, List.map_cons, List.map_nil]
 refine AW.skip ?_
 exact zEN
theorem zBZ (v : Val) (hv : qT v = true) : AX Tryz.prog G 134 [.p v.enc, .p (.fn 135)] [] (.agg [.p (.int .i64 v.kind), .p (.int .u64 v.mask), .p (.bool v.num.neg), .p (.str v.num.digits), .p (.int .i64 v.num.scale), .p (.str v.text), .ms 909, .ms 912, .p (.int .i64 v.code)]) [] [(909, .row 9 1 (v.keys.map PD.str)), (912, .row 31 9 (v.kids.map Val.enc))] := by
 refine AX.introU tok 900 Tryz.func134 (by kernel_rfl) rfl rfl ?_
 simp only [Tryz.f134, qJ, List.map_cons, List.map_nil]
 have hsm := kG hv
 have hck := qSY (G := G) v.keys (by omega)
 have hcv := qSW (G := G) v.kids (by omega)
 have ih : ∀ k ∈ v.kids, AFn Tryz.prog G 134 [k.enc, .fn 135] (qAT id k).enc := fun k hk => zHB (G := G) 135 id qTA k (zU hv hk)
 refine rgn [] [[], [1, 2, 4]] ?_
 iterate 2 refine op1 tok ?_
 refine qA ?_
 refine AW.seqRunDrawK tok mixed [1, 2, 4] 8 [[2], [7], [8], [2], [10], [11], [2], [13, 9]] [.nilf, .sl 1 (v.keys.map PD.str), .clo 9 [], .nilf, .sl 9 (v.kids.map Val.enc), .clo 31 []] [] (by kernel_rfl) (by intro C; conv => lhs; simp) (by first | exact hck | exact hcv | ((repeat' (first | with_reducible apply And.intro | intro _)) <;> first | exact (hck) | exact (hcv) | assumption | omega | contradiction | simp_all)) (by simp [Sm.sum, Sm.foot, Sm.tch, Sm.refs]; kernel_rfl) (by intro C; conv => lhs; simp) (by first | with_reducible exact True.intro | omega | simp | (simp +contextual; omega)) ?_
 refine AW.seq ?_
 refine rgn [] [[], [], [], [1, 2, 4, 16, 17, 18]] ?_
 iterate 4 refine op1 tok ?_
 refine qA ?_
 refine AW.block ?_
 refine AW.loop (α := Nat) (fun k => k ≤ v.kids.length) (fun k => ⟨qW 34 [(1, .p (.fn 135)), (2, .ptr 902 0), (4, .ptr 904 0), (16, .ms 912), (17, .p (.int .i64 v.kids.length)), (18, .p (.int .i64 k))], [], [(902, .vars 31 [.p (.int .i64 v.kind), .p (.int .u64 v.mask), .p (.bool v.num.neg), .p (.str v.num.digits), .p (.int .i64 v.num.scale), .p (.str v.text), .ms 909, .ms 912, .p (.int .i64 v.code)]), (904, .vars 31 zPZ), (909, .row 9 1 (v.keys.map PD.str)), (912, .row 31 9 (jS id v k))], 900⟩) (fun k => v.kids.length - k) (0) (by simp) ⟨qB (by simp), rfl, by simp, by simp⟩ ?_
 rintro k hk
 refine rgn [] [[]] ?_
 refine op1 tok ?_
 refine qA ?_
 refine AW.seq ?_
 refine cnd ?_ ?_
 ·intro h19
  try simp at h19
  obtain ⟨x, hx⟩ : ∃ x, v.kids[k]? = some x := ⟨v.kids[k], by simp [h19]⟩
  have hix := ih x (List.mem_of_getElem? hx)
  have hx' := qOI (ch := id) hx
  have hkl := qOH id v k
  have hset := qOG (ch := id) hx
  rw [qUR] at hix hset
  simp only [Val.enc_def] at hx' hix hset
  refine AW.skip ?_
  refine AW.seq ?_
  refine AW.block ?_
  refine rgn [x.enc] [[], [], [], [], [], [1, 2, 4, 5, 6, 16, 17, 18]] ?_
  iterate 6 refine op1 tok ?_ (hv := by first | with_reducible exact True.intro | (simpa using hx'; done) | omega | simp | (simp +contextual; omega))
  refine qA ?_
  refine AW.runDrawK tok mixed [1, 2, 4, 16, 17, 18] 6 [[2], [23], [5], [6], [1], [26, 27]] [.nilp, x.enc] [x.enc, x.enc] (by kernel_rfl) (by intro C; conv => lhs; simp) (by first | exact hix | ((repeat' (first | with_reducible apply And.intro | intro _)) <;> first | exact (hix) | exact (hx') | assumption | omega | contradiction | simp_all)) (by simp [Sm.sum, Sm.foot, Sm.tch, Sm.refs]; kernel_rfl) (by intro C; conv => lhs; simp) (by exact ⟨by omega, hx'⟩) ?_
  refine rgz [] [[], [1, 2, 4, 16, 17, 18]] ?_
  iterate 2 refine op1 tok ?_
  refine qA ?_
  exact ⟨k + 1, (by omega), (by omega), qB (by simp [hset]), rfl, by simp [hset], by simp [hset]⟩
 ·intro h19
  try simp at h19
  obtain rfl : k = v.kids.length := by omega
  have hfull : jS id v v.kids.length = v.kids.map Val.enc := by simp only [jS, List.take_length, List.drop_length, List.map_nil, List.append_nil, qUR]
  rw [hfull]
  refine AW.exit ?_
  simp
  refine rgn [] [[]] ?_
  refine op1 tok ?_
  refine qV ?_
  refine qC.stepK [2, 4] (yI rfl (zIC (.p (.int .i64 v.kind)) (.p (.int .u64 v.mask)) (.p (.bool v.num.neg)) (.p (.str v.num.digits)) (.p (.int .i64 v.num.scale)) (.p (.str v.text)) (.p (.int .i64 v.code)) (v.keys.map PD.str) (v.kids.map Val.enc)) (by simp)) (by conv => lhs; simp) rfl ?_
  refine qC.nil ?_
  refine rgn [] [[], [4]] ?_
  iterate 2 refine op1 tok ?_
  refine qA ?_
  exact AW.ret zX
theorem qSX (v : Val) (hv : qT v = true) : AX Tryz.prog G 78 [.p v.enc] [] (.agg [.p (.int .i64 v.kind), .p (.int .u64 v.mask), .p (.bool v.num.neg), .p (.str v.num.digits), .p (.int .i64 v.num.scale), .p (.str v.text), .ms 909, .ms 912, .p (.int .i64 v.code)]) [] [(909, .row 9 1 (v.keys.map PD.str)), (912, .row 31 9 (v.kids.map Val.enc))] := by
 refine AX.introU tok 1900 Tryz.func78 (by kernel_rfl) rfl rfl ?_
 simp only [Tryz.f78, qJ, List.map_cons, List.map_nil]
 have hm := zBZ (G := G) v hv
 simp only [Val.enc_def] at hm
 refine rgn [] [[], [1, 2]] ?_
 iterate 2 refine op1 tok ?_
 refine qA ?_
 refine rgn [] [[]] ?_
 refine op1 tok ?_
 refine qV ?_
 refine qC.stepK [2, 4] (yI rfl hm (by simp)) (by conv => lhs; simp) rfl ?_
 refine qC.run [[2]] ?_
 refine op1 tok ?_
 refine qA ?_
 exact AW.ret zX
def kT (s p : List UInt8) : Bool := decide (p.length ≤ s.length) && decide (s.take p.length = p)
@[simp] theorem zNK (s p : List UInt8) : AFn Tryz.prog G 203 [.str s, .str p] (.bool (kT s p)) := by
 refine AFn.intro tok Tryz.func203 (by kernel_rfl) rfl ?_
 simp only [Tryz.f203, St.start]
 refine AW.seqRun tok [] (by intro C; conv => lhs; simp) trivial ?_
 refine AW.seqRun tok [] (by intro C; conv => lhs; simp) (by simp +contextual) ?_
 exact AW.ret ⟨.inr rfl, _, _, by (conv => lhs; simp), trivial, by simp [kT]⟩
@[simp] theorem zPV (s p : List UInt8) : AFn Tryz.prog G 153 [.str s, .str p] (.bool (kT s p)) := by
 refine AFn.intro tok Tryz.func153 (by kernel_rfl) rfl ?_
 simp only [Tryz.f153, St.start]
 refine AW.seqRun tok [] (by intro C; conv => lhs; simp) trivial ?_
 refine AW.seqRun tok [.tup [.str s, .str p], .bool (kT s p)] (by intro C; conv => lhs; simp) (by simp) ?_
 exact AW.ret ⟨.inr rfl, _, _, by (conv => lhs; simp), trivial, by simp⟩
def qBY (s p : List UInt8) : List UInt8 := if kT s p then s.drop p.length else s
@[simp] theorem zNL (s p : List UInt8) : AFn Tryz.prog G 225 [.str s, .str p] (.tup [.str (qBY s p), .bool (kT s p)]) := by
 refine AFn.intro tok Tryz.func225 (by kernel_rfl) rfl ?_
 simp only [Tryz.f225, St.start]
 refine AW.seqRun tok [] (by intro C; conv => lhs; simp) trivial ?_
 refine AW.seq ?_
 refine AW.seqRun tok [.tup [.str s, .str p], .bool (kT s p)] (by intro C; conv => lhs; simp) (by simp) ?_
 refine AW.cond (c := .tmp 9) (by conv => lhs; simp) trivial ?_ ?_
 ·intro h1
  simp at h1
  refine AW.seqRun tok [] (by intro C; conv => lhs; simp) trivial ?_
  exact AW.ret ⟨.inr rfl, _, _, by (conv => lhs; simp), trivial, by simp [qBY, h1]⟩
 ·intro h1
  simp at h1
  refine AW.skip ?_
  refine AW.seqRun tok [] (by intro C; conv => lhs; simp) (by simp [kT] at h1 ⊢; omega) ?_
  exact AW.ret ⟨.inr rfl, _, _, by (conv => lhs; simp), trivial, by simp [qBY, h1]⟩
@[simp] theorem qJE (s p : List UInt8) : AFn Tryz.prog G 198 [.str s, .str p] (.tup [.str (qBY s p), .bool (kT s p)]) := by
 refine AFn.intro tok Tryz.func198 (by kernel_rfl) rfl ?_
 simp only [Tryz.f198, St.start]
 refine AW.seqRun tok [] (by intro C; conv => lhs; simp) trivial ?_
 refine AW.seqRun tok [.tup [.str s, .str p], .tup [.str (qBY s p), .bool (kT s p)]] (by intro C; conv => lhs; simp) (by simp) ?_
 exact AW.ret ⟨.inr rfl, _, _, by (conv => lhs; simp), trivial, by simp⟩
theorem zWO : zQI Tryz.prog 281 Extern.BytealgIndexByte.indexByte := fun args w => run_callFunc_extern Tryz.func281 (by kernel_rfl) (by kernel_rfl) (by kernel_rfl) (by kernel_rfl) args w
@[simp] theorem zNJ (s : List UInt8) (n : Int) : AFn Tryz.prog G 276 [.str s, .int .u8 n] (.int .i64 (Lib.indexByte s n.toNat.toUInt8)) := by
 refine AFn.intro tok Tryz.func276 (by kernel_rfl) rfl ?_
 simp only [Tryz.f276, St.start]
 refine AW.seqRun tok [] (by intro C; conv => lhs; simp) trivial ?_
 refine AW.seqRunX tok 2 [] [] rfl rfl (by intro C; conv => lhs; simp) trivial (qWB (s := s) (n := n) (p := True) (q := True) (r := True) zWO rfl (by simp) trivial (by simp) trivial (by simp) trivial) (by intro C; conv => lhs; simp) trivial ?_
 exact AW.ret ⟨.inr rfl, _, _, by (conv => lhs; simp), trivial, by simp⟩
@[simp] theorem zPU (s : List UInt8) (n : Int) : AFn Tryz.prog G 265 [.str s, .int .u8 n] (.int .i64 (Lib.indexByte s n.toNat.toUInt8)) := by
 refine AFn.intro tok Tryz.func265 (by kernel_rfl) rfl ?_
 simp only [Tryz.f265, St.start]
 refine AW.seqRun tok [] (by intro C; conv => lhs; simp) trivial ?_
 refine AW.seqRun tok [.tup [.str s, .int .u8 n], .int .i64 (Lib.indexByte s n.toNat.toUInt8)] (by intro C; conv => lhs; simp) (by simp) ?_
 exact AW.ret ⟨.inr rfl, _, _, by (conv => lhs; simp), trivial, by simp⟩
theorem qON {s : List UInt8} {k : Nat} (h : k < s.length) : s[k]? = some (s.getD k 0) := by simp [List.getD_eq_getElem?_getD, h]
theorem qED (s : List UInt8) (c : UInt8) : AFn Tryz.prog G 190 [.str s, .int .u8 c.toNat] (.str (s.dropWhile (fun b => b == c))) := by
 refine AFn.introU tok Tryz.func190 (by kernel_rfl) rfl rfl ?_
 simp only [Tryz.f190, qJ, List.map_cons, List.map_nil]
 refine rgn [] [[0, 1]] ?_
 refine op1 tok ?_
 refine qA ?_
 refine AW.seq ?_
 refine AW.block ?_
 refine AW.loop (α := List UInt8) (fun r => r.dropWhile (fun b => b == c) = s.dropWhile (fun b => b == c)) (fun r => ⟨qW 17 [(0, .p (.str r)), (1, .p (.int .u8 c.toNat))], [], [], 0⟩) (fun r => r.length) (s) rfl ⟨qB (by simp), rfl, by simp, by simp⟩ ?_
 rintro r hr
 have hix : 0 < r.length → r[0]? = some (r.getD 0 0) := fun h => qON h
 refine AW.seq ?_
 refine rgn [.int .u8 (r.getD 0 0).toNat] [[], [], [], [], [], [0, 1, 8, 10], [], [], [0, 1, 13]] ?_
 iterate 4 refine op1 tok ?_ (hv := by first | with_reducible exact True.intro | (first | exact fun h => ⟨h, _, hix (by omega), rfl⟩ | simp; done) | omega | simp | (simp +contextual; omega))
 iterate 4 refine op2 tok ?_ (hv := by first | with_reducible exact True.intro | (first | exact fun h => ⟨h, _, hix (by omega), rfl⟩ | simp; done) | omega | simp | (simp +contextual; omega))
 refine op1 tok ?_ (hv := by first | with_reducible exact True.intro | (first | exact fun h => ⟨h, _, hix (by omega), rfl⟩ | simp; done) | omega | simp | (simp +contextual; omega))
 refine qA ?_
 refine cnd ?_ ?_
 ·intro h13
  try simp at h13
  obtain ⟨b, r, rfl⟩ : ∃ b r', r = b :: r' := by
   cases r with
   | nil => simp at h13
   | cons b r => exact ⟨b, r, rfl⟩
  have hb : b = c := UInt8.toNat_inj.1 (by have := h13.2; simp at this; omega)
  subst hb
  have hr2 : List.dropWhile (fun b' => b' == b) r = List.dropWhile (fun b' => b' == b) s := by rw [← hr]; simp
  refine AW.skip ?_
  refine AW.block ?_
  refine rgz [] [[], [], [0, 1]] ?_
  iterate 3 refine op1 tok ?_
  refine qA ?_
  exact ⟨r, hr2, by simp, qB (by simp), rfl, by simp, by simp⟩
 ·intro h13
  try simp at h13
  have hr3 : s.dropWhile (fun b => b == c) = r := by
   rw [← hr]
   cases r with
   | nil => rfl
   | cons b r =>
    have hb : b ≠ c := by rintro rfl; simp at h13
    simp [hb]
  rw [hr3]
  refine AW.exit ?_
  simp
  refine rgn [] [[], [4]] ?_
  iterate 2 refine op1 tok ?_
  refine qA ?_
  exact AW.ret qI
theorem qWU (s : List UInt8) (c : UInt8) : (decide (1 ≤ (s.length : Int)) && decide (List.drop (s.length - 1) s = [c])) = decide (s.getLast? = some c) := by
 by_cases h : s = []
 ·subst h; simp
 ·obtain ⟨a, b, rfl⟩ : ∃ a b, s = a ++ [b] := ⟨s.dropLast, s.getLast h, (List.dropLast_concat_getLast h).symm⟩
  rw [Bool.eq_iff_iff]
  simp
  intro _; omega
theorem qPT (s : List UInt8) (c : UInt8) : AFn Tryz.prog G 194 [.str s, .str [c]] (.bool (decide (s.getLast? = some c))) := by
 refine AFn.introU tok Tryz.func194 (by kernel_rfl) rfl rfl ?_
 simp only [Tryz.f194, qJ, List.map_cons, List.map_nil]
 refine AW.strFactU (i := 0) rfl (by decide) ?_
 intro hlen
 have hsuf : (decide (1 ≤ (s.length : Int)) && decide (List.drop (s.length - 1) s = [c])) = decide (s.getLast? = some c) := qWU s c
 refine rgn [] [[0, 1]] ?_
 refine op1 tok ?_
 refine qA ?_
 refine rgn [] [[], [], [], [], [0, 1, 9], [], [], [], [], [], [1, 10, 11, 13, 15], [], [1, 10, 17], [], [], [20], [4]] ?_
 iterate 6 refine op1 tok ?_
 iterate 9 refine op2 tok ?_
 iterate 2 refine op1 tok ?_
 refine qA ?_
 exact AW.ret (qI (k := by simp [hsuf]))
theorem qVX (s : List UInt8) (c : UInt8) : AFn Tryz.prog G 147 [.str s, .str [c]] (.bool (decide (s.getLast? = some c))) := by
 refine AFn.introU tok Tryz.func147 (by kernel_rfl) rfl rfl ?_
 simp only [Tryz.f147, qJ, List.map_cons, List.map_nil]
 refine rgn [] [[0, 1]] ?_
 refine op1 tok ?_
 refine qA ?_
 refine rgn [.nilp, .bool (decide (s.getLast? = some c))] [[], [], [7], [4]] ?_
 iterate 4 refine op1 tok ?_ (hv := by first | with_reducible exact True.intro | (exact qPT s c; done) | omega | simp | (simp +contextual; omega))
 refine qA ?_
 exact AW.ret qI
theorem qAH (s : List UInt8) (c : UInt8) (hc : c.toNat < 128) : AFn Tryz.prog G 146 [.str s, .str [c]] (.str (s.dropWhile (fun b => b == c))) := by
 refine AFn.introU tok Tryz.func146 (by kernel_rfl) rfl rfl ?_
 simp only [Tryz.f146, qJ, List.map_cons, List.map_nil]
 refine rgn [] [[0, 1]] ?_
 refine op1 tok ?_
 refine qA ?_
 refine AW.seq ?_
 refine rgn [] [[], [], [], [], [], [0, 1, 12]] ?_
 iterate 3 refine op1 tok ?_
 iterate 2 refine op2 tok ?_
 refine op1 tok ?_
 refine qA ?_
 refine cnd ?_ ?_
 ·intro h12
  try simp at h12
  subst h12
  refine rgn [] [[], [4]] ?_
  iterate 2 refine op1 tok ?_
  refine qA ?_
  exact AW.ret qI
 ·intro h12
  try simp at h12
  refine AW.skip ?_
  refine AW.seq ?_
  refine rgn [.int .u8 c.toNat] [[], [], [], [], [], [0, 1, 17, 19], [], [0, 1, 21]] ?_
  iterate 4 refine op1 tok ?_ (hv := by first | with_reducible exact True.intro | (simp; done) | omega | simp | (simp +contextual; omega))
  iterate 3 refine op2 tok ?_ (hv := by first | with_reducible exact True.intro | (simp; done) | omega | simp | (simp +contextual; omega))
  refine op1 tok ?_ (hv := by first | with_reducible exact True.intro | (simp; done) | omega | simp | (simp +contextual; omega))
  refine qA ?_
  refine cnd ?_ ?_
  ·intro h21
   try simp at h21
   refine rgn [.int .u8 c.toNat, .nilp, .str (s.dropWhile (fun b => b == c))] [[], [], [], [25], [4]] ?_
   iterate 5 refine op1 tok ?_ (hv := by first | with_reducible exact True.intro | (first | exact qED s c | simp; done) | omega | simp | (simp +contextual; omega))
   refine qA ?_
   exact AW.ret qI
  ·intro h21
   try simp at h21
   omega
theorem qWS (s : List UInt8) : (if s.all (fun b => !qBT b.toNat) then (-1 : Int) else (((s.takeWhile fun b => !qBT b.toNat).length : Nat) : Int)) = if s.all qG then -1 else ((s.takeWhile qG).length : Int) := by
 have e : (fun b : UInt8 => !qBT b.toNat) = qG := by funext b; rw [zGQ]; simp
 rw [e]
theorem qYW (s : List UInt8) : qBX qBT s = if s.all qG then -1 else ((s.takeWhile qG).length : Int) := by
 rw [qUX (fun n h => by simp [qBT] <;> omega), qWS]
theorem zSU {s : List UInt8} (h : s.all qG = true) : s.takeWhile qG = s ∧ s.dropWhile qG = [] := by
 have := zJD (W := s) (F := []) h (by simp)
 simpa using this
theorem zNW (s : List UInt8) : s.take (s.takeWhile qG).length = s.takeWhile qG ∧ s.drop (s.takeWhile qG).length = s.dropWhile qG := by
 have h := List.takeWhile_append_dropWhile (p := qG) (l := s)
 generalize s.takeWhile qG = A at *
 generalize s.dropWhile qG = B at *
 subst h
 simp
theorem zJE (s : List UInt8) : (s.takeWhile qG).length ≤ s.length := (List.takeWhile_sublist _).length_le
theorem zQH (s : List UInt8) : (s.dropWhile qG).length ≤ s.length := (List.dropWhile_sublist _).length_le
theorem qVR {s : List UInt8} {n : Int} (hc : (if s.all qG = true then (-1 : Int) else ((s.takeWhile qG).length : Int)) = n) (h : n < 0) : (s.takeWhile qG).length = s.length := by
 split at hc
 ·rename_i ha; rw [(zSU ha).1]
 ·omega
theorem qMV {s : List UInt8} {n : Int} (hc : (if s.all qG = true then (-1 : Int) else ((s.takeWhile qG).length : Int)) = n) (h : 0 ≤ n) : n = ((s.takeWhile qG).length : Int) := by
 split at hc
 ·omega
 ·omega
theorem qHA (s : List UInt8) : AFn Tryz.prog G 199 [.str s] (.tup [.str (s.takeWhile qG), .str (s.dropWhile qG)]) := by
 refine AFn.introU tok Tryz.func199 (by kernel_rfl) rfl rfl ?_
 simp only [Tryz.f199, qJ, List.map_cons, List.map_nil]
 have hI := qVV (G := G) s 227 qBT zKK
 rw [qYW] at hI
 have htw := zNW s
 have hle := zJE s
 generalize hc : (if s.all qG = true then (-1 : Int) else ((s.takeWhile qG).length : Int)) = n at hI
 refine rgn [] [[], [0]] ?_
 iterate 2 refine op1 tok ?_
 refine qA ?_
 refine rgn [.nilp, .int .i64 n] [[], [], [0, 4]] ?_
 iterate 3 refine op1 tok ?_ (hv := by first | with_reducible exact True.intro | (exact hI; done) | omega | simp | (simp +contextual; omega))
 refine qA ?_
 refine AW.join (α := Unit) (fun _ => True) (fun a => ⟨qW 17 [(0, .p (.str s)), (4, .p (.int .i64 (s.takeWhile qG).length))], [], [], 0⟩) ?_ ?_
 ·
  refine rgn [] [[], [0, 4, 8]] ?_
  iterate 2 refine op1 tok ?_
  refine qA ?_
  refine cnd ?_ ?_
  ·intro h8
   try simp at h8
   refine rgz [] [[], [], [0, 4]] ?_
   iterate 3 refine op1 tok ?_
   refine qA ?_
   exact ⟨(), trivial, qB (by simp [qVR hc h8]), rfl, by simp [qVR hc h8], by simp [qVR hc h8]⟩
  ·intro h8
   try simp at h8
   refine AW.skip ?_
   exact ⟨(), trivial, qB (by simp [qMV hc h8]), rfl, by simp [qMV hc h8], by simp [qMV hc h8]⟩
 ·
  rintro a hI
  refine AW.seqRunDrawK tok mixed [2, 3] 7 [[0], [4], [11, 12], [0], [4], [14, 15], [13]] [] [] (by kernel_rfl) (by intro C; conv => lhs; simp) (by omega) (by simp [Sm.sum, Sm.foot, Sm.tch, Sm.refs]; kernel_rfl) (by intro C; conv => lhs; simp) (by first | with_reducible exact True.intro | omega | simp | (simp +contextual; omega)) ?_
  exact AW.ret (qI (k := by simp [htw.1, htw.2]))
theorem zPC (s : List UInt8) : (qR s).length ≤ s.length := (List.dropWhile_sublist _).length_le
theorem qSQ {d : Dc} (h : zP d = true) : 1 ≤ d.digits.length ∧ d.digits.length ≤ 60 ∧ 0 ≤ d.scale ∧ d.scale ≤ 60 := by
 unfold zP at h; simp only [Bool.and_eq_true, decide_eq_true_eq] at h; omega
theorem qLY (t : List UInt8) (c : UInt8) : kT t [c] = decide (t.head? = some c) := by cases t <;> simp [kT]
theorem qQM (D : List UInt8) (c : UInt8) : qGE (D ++ [c]) = qGE D * 10 + (c.toNat - 48) := by simp [qGE]
theorem zDH {D : List UInt8} (h : D.all qG = true) : qGE D < 10 ^ D.length := by
 have key : ∀ (r : List UInt8), r.all qG = true → qGE r.reverse < 10 ^ r.length := by
  intro r
  induction r with
  | nil => intro _; decide
  | cons b r ih =>
   intro h
   simp only [List.all_cons, Bool.and_eq_true, qG, kU, decide_eq_true_eq] at h
   have := ih h.2
   rw [List.reverse_cons, qQM, List.length_cons, Nat.pow_succ]; omega
 have := key D.reverse (by simpa using h)
 simpa using this
theorem zJF (s : List UInt8) : (s.takeWhile qG).all qG = true := List.all_takeWhile
theorem zOH (t : List UInt8) : (jO t).length ≤ t.length := by unfold jO; split <;> simp
theorem zWD {t : List UInt8} {a b : Bool} (h1 : a = decide (t.head? = some 45)) (h2 : b = decide (t.head? = some 43)) (h : a = true ∨ b = true) : t.tail = jO t ∧ 1 ≤ t.length := by
 subst h1; subst h2
 simp only [decide_eq_true_eq] at h
 unfold jO; rw [if_pos h]
 refine ⟨by simp, ?_⟩
 cases t with
 | nil => simp at h
 | cons a t => simp
theorem zJJ {t : List UInt8} {a b : Bool} (h1 : a = decide (t.head? = some 45)) (h2 : b = decide (t.head? = some 43)) (h : a = false ∧ b = false) : t = jO t := by
 subst h1; subst h2
 simp only [decide_eq_false_iff_not] at h
 unfold jO; rw [if_neg (fun h' => h'.elim h.1 h.2)]
theorem qYY (s : List UInt8) (hs : s.length ≤ 1000000000000) : AFn Tryz.prog G 200 [.str s] (.tup [.int .i64 ((qIU s).getD 0), .bool (qIU s).isSome]) := by
 refine AFn.introU tok Tryz.func200 (by kernel_rfl) rfl rfl ?_
 simp only [Tryz.f200, qJ, List.map_cons, List.map_nil]
 refine rgn [] [[], [0]] ?_
 iterate 2 refine op1 tok ?_
 refine qA ?_
 refine AW.seq ?_
 refine rgn [] [[], [0, 11]] ?_
 iterate 2 refine op1 tok ?_
 refine qA ?_
 refine cnd ?_ ?_
 ·intro h11
  try simp at h11
  subst h11
  refine rgn [] [[], []] ?_
  iterate 2 refine op1 tok ?_
  refine qA ?_
  exact AW.ret (qI (k := by simp [qIU]))
 ·intro h11
  try simp at h11
  obtain ⟨b, t, rfl⟩ : ∃ b t, s = b :: t := by
   cases s with
   | nil => exact absurd rfl h11
   | cons b t => exact ⟨b, t, rfl⟩
  have hp1 := qLY t 45
  have hp2 := qLY t 43
  have hlt := zOH t
  simp only [List.length_cons] at hs
  refine AW.skip ?_
  refine AW.seq ?_
  refine rgn [.int .u8 b.toNat, .int .u8 b.toNat] [[], [], [], [], [], [0, 15, 17], [], [0, 19]] ?_
  iterate 4 refine op1 tok ?_ (hv := by first | with_reducible exact True.intro | (simp; done) | omega | simp | (simp +contextual; omega))
  iterate 3 refine op2 tok ?_ (hv := by first | with_reducible exact True.intro | (simp; done) | omega | simp | (simp +contextual; omega))
  refine op1 tok ?_ (hv := by first | with_reducible exact True.intro | (simp; done) | omega | simp | (simp +contextual; omega))
  refine qA ?_
  refine cnd ?_ ?_
  ·intro h19
   try simp at h19
   have he : qIU (b :: t) = none := by
    unfold qIU; simp only; rw [if_pos ⟨by rintro rfl; exact h19.1 rfl, by rintro rfl; exact h19.2 rfl⟩]
   refine rgn [] [[], []] ?_
   iterate 2 refine op1 tok ?_
   refine qA ?_
   exact AW.ret (qI (k := by simp [he]))
  ·intro h19
   try simp at h19
   have hb : ¬ (b ≠ 101 ∧ b ≠ 69) := by
    rintro ⟨h1, h2⟩
    have h1' : b.toNat ≠ 101 := fun e => h1 (UInt8.toNat_inj.1 e)
    have h2' : b.toNat ≠ 69 := fun e => h2 (UInt8.toNat_inj.1 e)
    have := h19 (by omega)
    omega
   have he : qIU (b :: t) = if (jO t).dropWhile qG ≠ [] ∨ ((jO t).takeWhile qG).length < 1 ∨ 2 < ((jO t).takeWhile qG).length then none
     else some (if t.head? = some 45 then - (qGE ((jO t).takeWhile qG) : Int) else qGE ((jO t).takeWhile qG)) := by
    unfold qIU; simp only; rw [if_neg hb]
   rw [he]
   clear he
   have hlead := qHA (G := G) (jO t)
   have hall := zJF (jO t)
   refine AW.skip ?_
   refine rgn [] [[], [], [0]] ?_
   iterate 3 refine op1 tok ?_
   refine qA ?_
   refine rgn [.nilp, .bool (kT t [45])] [[], [], [0, 4]] ?_
   iterate 3 refine op1 tok ?_
   refine qA ?_
   refine AW.join (α := Unit) (fun _ => True) (fun a => ⟨qW 63 [(0, .p (.str (jO t))), (4, .p (.bool (kT t [45])))], [], [], 0⟩) ?_ ?_
   ·
    refine rgn [.nilp, .bool (kT t [43])] [[], [], [], [], [0, 4, 28]] ?_
    iterate 2 refine op1 tok ?_
    iterate 2 refine op2 tok ?_
    refine op1 tok ?_
    refine qA ?_
    refine cnd ?_ ?_
    ·intro h28
     try simp at h28
     have hsT := zWD hp1 hp2 h28
     refine rgz [] [[], [], [0, 4]] ?_
     iterate 3 refine op1 tok ?_
     refine qA ?_
     exact ⟨(), trivial, qB (by simp [hsT.1]), rfl, by simp [hsT.1], by simp [hsT.1]⟩
    ·intro h28
     try simp at h28
     refine AW.skip ?_
     exact ⟨(), trivial, qB (by simp [(zJJ hp1 hp2 h28).symm]), rfl, by simp [(zJJ hp1 hp2 h28).symm], by simp [(zJJ hp1 hp2 h28).symm]⟩
   ·
    rintro a hI
    generalize jO t = u at *
    generalize u.takeWhile qG = D at *
    generalize u.dropWhile qG = E at *
    refine rgn [.nilp, .tup [.str D, .str E]] [[], [], [], [], [4, 34, 35], [], [4, 5, 6]] ?_
    iterate 7 refine op1 tok ?_ (hv := by first | with_reducible exact True.intro | (exact hlead; done) | omega | simp | (simp +contextual; omega))
    refine qA ?_
    refine AW.seq ?_
    refine rgn [] [[], [], [], [], [4, 5, 38, 40], [], [], [4, 5, 43], [], [], [], [4, 5, 47]] ?_
    iterate 12 first | refine op1 tok ?_ | refine op2 tok ?_
    refine qA ?_
    refine cnd ?_ ?_
    ·intro h47
     try simp at h47
     rw [if_pos (h47.elim (fun h => h.elim .inl (fun h => .inr (.inl (by omega)))) (fun h => .inr (.inr (by omega))))]
     refine rgn [] [[], []] ?_
     iterate 2 refine op1 tok ?_
     refine qA ?_
     exact AW.ret qI
    ·intro h47
     try simp at h47
     rw [if_neg (by
      rintro (h | h)
      ·exact h h47.1.1
      ·omega)]
     have hD2 : D.length ≤ 2 := by omega
     refine AW.skip ?_
     refine rgn [] [[]] ?_
     refine op1 tok ?_
     refine qA ?_
     refine AW.seq ?_
     refine rgn [] [[], [4, 7, 49]] ?_
     iterate 2 refine op1 tok ?_
     refine qA ?_
     refine AW.block ?_
     refine AW.loop (α := Nat) (fun pos => pos ≤ D.length) (fun pos => ⟨qW 63 [(4, .p (.bool (kT t [45]))), (7, .p (.int .i64 (qGE (D.take pos)))), (49, .it 49)], [], [(49, .iter D pos)], 0⟩) (fun pos => D.length - pos) (0) (by omega) ⟨qB (by simp [qGE]), rfl, by simp, by simp⟩ ?_
     rintro pos hp
     have hvl : qGE (D.take pos) < 10 ^ (D.take pos).length := zDH (qCZ hall pos)
     have hpw : 10 ^ (D.take pos).length ≤ 10 ^ 2 := Nat.pow_le_pow_right (by omega) (by simp; omega)
     by_cases hs14 : pos < D.length
     ·
      refine rgn [.bool true] [[], []] ?_
      iterate 2 refine op1 tok ?_ (hv := by first | with_reducible exact True.intro | (simpa using hs14; done) | omega | simp | (simp +contextual; omega))
      refine qA ?_
      refine AW.seq ?_
      refine cnd ?_ ?_
      ·intro h51
       try simp at h51
       obtain ⟨c, hc⟩ : ∃ c, D[pos]? = some c := ⟨D[pos], by simp [hs14]⟩
       have hcd : qG c = true := List.all_eq_true.1 hall c (List.mem_of_getElem? hc)
       have hcd2 : 48 ≤ c.toNat ∧ c.toNat ≤ 57 := by simp [qG, kU] at hcd; omega
       have hdl : qBA D pos = (c.toNat, 1) := by
        have hg : D.getD pos 0 = c := by simp [List.getD_eq_getElem?_getD, hc]
        have := qDU (s := D) (pos := pos) hs14 (by rw [hg]; omega)
        rw [hg] at this; exact this
       have hsn : qGE (D.take (pos + 1)) = qGE (D.take pos) * 10 + (c.toNat - 48) := by rw [List.take_add_one, hc]; exact qQM _ _
       rw [hdl]
       refine AW.skip ?_
       refine AW.block ?_
       refine rgn [] [[], [4, 7, 9, 49]] ?_
       iterate 2 refine op1 tok ?_
       refine qA ?_
       refine rgz [] [[], [], [], [4, 49, 54, 56], [], [], [4, 7, 49]] ?_
       iterate 7 refine op1 tok ?_ (hv := by first | with_reducible exact True.intro | (omega; done) | omega | simp | (simp +contextual; omega))
       refine qA ?_
       exact ⟨pos + 1, by omega, by omega, qB (by simp [hsn, (show ((c.toNat - 48 : Nat) : Int) = (c.toNat : Int) - 48 by omega)]), rfl, by simp [hsn, (show ((c.toNat - 48 : Nat) : Int) = (c.toNat : Int) - 48 by omega)], by simp [hsn, (show ((c.toNat - 48 : Nat) : Int) = (c.toNat : Int) - 48 by omega)]⟩
      ·intro h51
       try simp at h51
     ·
      refine rgn [.bool false] [[], []] ?_
      iterate 2 refine op1 tok ?_ (hv := by first | with_reducible exact True.intro | (simpa using hs14; done) | omega | simp | (simp +contextual; omega))
      refine qA ?_
      refine AW.seq ?_
      refine cnd ?_ ?_
      ·intro h51
       try simp at h51
      ·intro h51
       try simp at h51
       have hpD : D.take pos = D := List.take_of_length_le (by omega)
       rw [hpD] at hvl hpw ⊢
       refine AW.exit ?_
       simp
       refine AW.seq ?_
       refine rgn [] [[7, 59]] ?_
       refine op1 tok ?_
       refine qA ?_
       refine cnd ?_ ?_
       ·intro h59
        try simp at h59
        rw [hp1] at h59
        have ht : t.head? = some 45 := by simpa using h59
        rw [if_pos ht]
        have hw : IntKind.i64.wrap (-(qGE D : Int)) = -(qGE D : Int) := by simp [IntKind.wrap, IntKind.bits, IntKind.signed]; omega
        refine rgz [] [[], [], [7]] ?_
        iterate 3 refine op1 tok ?_ (hv := by first | with_reducible exact True.intro | (omega; done) | omega | simp | (simp +contextual; omega))
        refine qA ?_
        refine rgn [] [[], [], [2, 3]] ?_
        iterate 3 refine op1 tok ?_
        refine qA ?_
        exact AW.ret (qI (k := by simp [hw]))
       ·intro h59
        try simp at h59
        rw [hp1] at h59
        have ht : ¬ t.head? = some 45 := by simpa using h59
        rw [if_neg ht]
        refine AW.skip ?_
        refine rgn [] [[], [], [2, 3]] ?_
        iterate 3 refine op1 tok ?_
        refine qA ?_
        exact AW.ret qI
theorem qUT (neg : Bool) (digits : List UInt8) (scale : Nat) (hd : digits.length ≤ 10000000000) (hs : scale ≤ 10000000000) : AFn Tryz.prog G 90 [.bool neg, .str digits, .int .i64 scale] (.tup [(yK neg digits scale).1.enc, .int .i64 (yK neg digits scale).2]) := by
 refine AFn.introU tok Tryz.func90 (by kernel_rfl) rfl rfl ?_
 simp only [Tryz.f90, qJ, List.map_cons, List.map_nil]
 have hstr : (qR digits).length ≤ digits.length := zPC digits
 refine rgn [] [[], [0, 1, 2, 6]] ?_
 iterate 2 refine op1 tok ?_
 refine qA ?_
 refine rgn [.nilp, .str (qR digits)] [[], [], [0, 1, 2, 6]] ?_
 iterate 3 refine op1 tok ?_ (hv := by first | with_reducible exact True.intro | (exact qAH digits 48 (by decide); done) | omega | simp | (simp +contextual; omega))
 refine qA ?_
 refine AW.seq ?_
 refine AW.block ?_
 refine AW.loop (α := List UInt8 × Nat) (fun a => kC (qR digits) scale = kC a.1 a.2 ∧ a.2 ≤ scale ∧ a.1.length ≤ digits.length) (fun a => ⟨qW 40 [(0, .p (.bool neg)), (1, .p (.str a.1)), (2, .p (.int .i64 a.2)), (6, .ptr 6 0)], [], [(6, .vars 26 [.p (.bool false), .p (.str []), .p (.int .i64 0)])], 0⟩) (fun a => a.2) ((qR digits, scale)) ⟨rfl, Nat.le_refl _, hstr⟩ ⟨qB (by simp), rfl, by simp, by simp⟩ ?_
 rintro ⟨d, k⟩ ⟨ht, hk, hdl⟩
 simp only at ht hk hdl
 have hsf := qVX (G := G) d 48
 refine AW.seq ?_
 refine rgn [.nilp, .bool (decide (d.getLast? = some 48))] [[], [], [], [], [], [0, 1, 2, 6, 15]] ?_
 iterate 3 refine op1 tok ?_ (hv := by first | with_reducible exact True.intro | (first | exact fun h => ⟨h, hsf⟩ | simp; done) | omega | simp | (simp +contextual; omega))
 iterate 2 refine op2 tok ?_ (hv := by first | with_reducible exact True.intro | (first | exact fun h => ⟨h, hsf⟩ | simp; done) | omega | simp | (simp +contextual; omega))
 refine op1 tok ?_ (hv := by first | with_reducible exact True.intro | (first | exact fun h => ⟨h, hsf⟩ | simp; done) | omega | simp | (simp +contextual; omega))
 refine qA ?_
 refine cnd ?_ ?_
 ·intro h15
  try simp at h15
  obtain ⟨k, rfl⟩ : ∃ k', k = k' + 1 := ⟨k - 1, by omega⟩
  have hl : d.getLast? = some 48 := by simpa using h15.2
  have hpos : 0 < d.length := by cases d with
   | nil => simp at hl
   | cons => simp
  have ht' : kC (qR digits) scale = kC d.dropLast k := by rw [ht]; simp only [kC]; rw [if_pos hl]
  refine AW.skip ?_
  refine AW.block ?_
  refine rgz [] [[], [], [], [], [0, 2, 6, 20], [], [], [], [0, 1, 2, 6]] ?_
  iterate 9 refine op1 tok ?_ (hv := by first | with_reducible exact True.intro | (omega; done) | omega | simp | (simp +contextual; omega))
  refine qA ?_
  exact ⟨(d.dropLast, k), ⟨ht', by simp only []; omega, by simp; omega⟩, by simp, qB (by simp [qAI]), rfl, by simp [qAI], by simp [qAI]⟩
 ·intro h15
  try simp at h15
  have htl : kC (qR digits) scale = (d, k) := by
   rw [ht]
   cases k with
   | zero => rfl
   | succ k =>
    simp only [kC]
    rw [if_neg]
    intro hl
    have := h15 (by omega)
    simp [hl] at this
  have hN : yK neg digits scale = if d = [] then (⟨false, [48], 0⟩, 0) else if 60 < d.length ∨ 60 < k then (⟨false, [], 0⟩, 3) else (⟨neg, d, k⟩, 0) := by unfold yK; simp only [htl]
  rw [hN]
  refine AW.exit ?_
  simp
  refine AW.seq ?_
  refine AW.block ?_
  refine rgn [] [[], [], [0, 1, 2, 6, 23]] ?_
  iterate 3 refine op1 tok ?_
  refine qA ?_
  refine cnd ?_ ?_
  ·intro h23
   try simp at h23
   subst h23
   refine rgn [] [[], [], [6, 7]] ?_
   iterate 3 refine op1 tok ?_
   refine qA ?_
   exact AW.ret qI
  ·intro h23
   try simp at h23
   rw [if_neg h23]
   refine rgn [] [[], [], [], [], [], [0, 1, 2, 6, 31, 33], [], [0, 1, 2, 6, 27]] ?_
   iterate 4 refine op1 tok ?_
   iterate 2 refine op2 tok ?_
   iterate 2 refine op1 tok ?_
   refine qA ?_
   refine cnd ?_ ?_
   ·intro h27
    try simp at h27
    rw [if_pos (by omega)]
    refine rgn [] [[], [], [6, 7]] ?_
    iterate 3 refine op1 tok ?_
    refine qA ?_
    exact AW.ret qI
   ·intro h27
    try simp at h27
    rw [if_neg (by omega)]
    refine AW.skip ?_
    refine rgn [] [[], [], [], [6, 39], [], [6, 7]] ?_
    iterate 6 refine op1 tok ?_
    refine qA ?_
    exact AW.ret qI
theorem zMR (s : List UInt8) : qBY s [45] = uZ s ∧ kT s [45] = qUM s := by
 have h := qLY s 45
 unfold qBY uZ qUM
 rw [h]
 refine ⟨?_, rfl⟩
 simp
theorem zPP (s : List UInt8) : (uZ s).length ≤ s.length := by unfold uZ; split <;> simp
theorem zRY {W : List UInt8} (h : (((W[0]?.getD 0).toNat : Nat) : Int) = 48) : W.head? = some 48 := by
 cases W with
 | nil => simp at h
 | cons b W => simp at h ⊢; exact UInt8.toNat_inj.1 (by show b.toNat = 48; omega)
theorem zWH (n : Nat) : Lib.repeatL [48] n = zA n := by
 unfold zA
 induction n with
 | zero => rfl
 | succ n ih => simp only [Lib.repeatL, List.replicate_succ, ih]; rfl
theorem zCL (q : List UInt8) : -99 ≤ (qIU q).getD 0 ∧ (qIU q).getD 0 ≤ 99 := by
 unfold qIU
 split
 ·simp
 ·rename_i b t
  split
  ·simp
  ·split
   ·simp
   ·rename_i h
    have h1 := zDH (zJF (jO t))
    have h2 : 10 ^ ((jO t).takeWhile qG).length ≤ 10 ^ 2 := Nat.pow_le_pow_right (by omega) (by omega)
    simp only [Option.getD_some]
    split <;> omega
theorem zAJ (s : List UInt8) (hs : s.length ≤ 1000000000) : AFn Tryz.prog G 151 [.str s] (.tup [(wG s).1.enc, .int .i64 (wG s).2]) := by
 refine AFn.introU tok Tryz.func151 (by kernel_rfl) rfl rfl ?_
 simp only [Tryz.f151, qJ, List.map_cons, List.map_nil]
 have hbp := zMR s
 have hbl := zPP s
 have hP : wG s = match qIS ((uZ s).dropWhile qG) with
  | none => xB
  | some (P, r) => qZB (qUM s) ((uZ s).takeWhile qG) P (qIU r) := rfl
 rw [hP]
 clear hP
 have hl1 := qHA (G := G) (uZ s)
 have hw1 := zJE (uZ s)
 have hw2 := zQH (uZ s)
 have hcp := qJE (G := G) s [45]
 rw [hbp.1, hbp.2] at hcp
 generalize uZ s = u at *
 generalize qUM s = ng at *
 generalize u.takeWhile qG = W at *
 generalize u.dropWhile qG = r at *
 have hcr := qJE (G := G) r [46]
 have hr46 := qLY r 46
 have hcut : qBY r [46] = if r.head? = some 46 then r.drop 1 else r := by unfold qBY; rw [hr46]; simp
 have hl2 := qHA (G := G) (r.drop 1)
 have hv1 := zJE (r.drop 1)
 have hv2 := zQH (r.drop 1)
 rw [List.length_drop] at hv1 hv2
 refine rgn [] [[], [0, 2]] ?_
 iterate 2 refine op1 tok ?_
 refine qA ?_
 refine rgn [.nilp, .tup [.str u, .bool ng]] [[], [], [], [], [2, 17, 18], [], [2, 4, 5]] ?_
 iterate 7 refine op1 tok ?_ (hv := by first | with_reducible exact True.intro | (exact hcp; done) | omega | simp | (simp +contextual; omega))
 refine qA ?_
 refine rgn [.nilp, .tup [.str W, .str r]] [[], [], [], [], [2, 5, 22, 23], [], [2, 4, 5, 6]] ?_
 iterate 7 refine op1 tok ?_ (hv := by first | with_reducible exact True.intro | (exact hl1; done) | omega | simp | (simp +contextual; omega))
 refine qA ?_
 refine rgn [] [[]] ?_
 refine op1 tok ?_
 refine qA ?_
 refine AW.join (α := List UInt8 × List UInt8) (fun a => qIS r = some (a.1, a.2) ∧ a.1.length ≤ s.length ∧ a.2.length ≤ s.length) (fun a => ⟨qW 80 [(2, .ptr 2 0), (4, .p (.str a.2)), (5, .p (.bool ng)), (6, .p (.str W)), (7, .p (.str a.1))], [], [(2, .vars 26 [.p (.bool false), .p (.str []), .p (.int .i64 0)])], 0⟩) ?_ ?_
 ·
  refine rgn [.nilp, .tup [.str (qBY r [46]), .bool (kT r [46])]] [[], [], [], [], [], [2, 4, 5, 6, 7, 8, 28], [2, 4, 5, 6, 7, 8, 9]] ?_
  iterate 7 refine op1 tok ?_ (hv := by first | with_reducible exact True.intro | (exact hcr; done) | omega | simp | (simp +contextual; omega))
  refine qA ?_
  refine rgn [] [[2, 4, 5, 6, 7, 8, 29]] ?_
  refine op1 tok ?_
  refine qA ?_
  refine cnd ?_ ?_
  ·intro h29
   try simp at h29
   have hh : r.head? = some 46 := by rw [hr46] at h29; simpa using h29
   rw [if_pos hh] at hcut
   rw [hcut]
   have hF : qIS r = if (r.drop 1).takeWhile qG = [] then none else some ((r.drop 1).takeWhile qG, (r.drop 1).dropWhile qG) := by unfold qIS; rw [if_pos hh]
   rw [hF]
   generalize (r.drop 1).takeWhile qG = P at *
   generalize (r.drop 1).dropWhile qG = q at *
   rw [List.drop_one] at hl2
   refine rgn [.nilp, .tup [.str P, .str q]] [[], [], [], [], [2, 5, 6, 33, 34], [], [2, 4, 5, 6, 7]] ?_
   iterate 7 refine op1 tok ?_ (hv := by first | with_reducible exact True.intro | (exact hl2; done) | omega | simp | (simp +contextual; omega))
   refine qA ?_
   refine rgn [] [[], [2, 4, 5, 6, 7, 36]] ?_
   iterate 2 refine op1 tok ?_
   refine qA ?_
   refine cnd ?_ ?_
   ·intro h36
    try simp at h36
    rw [if_pos h36]
    refine rgn [] [[], [], [2, 3]] ?_
    iterate 3 refine op1 tok ?_
    refine qA ?_
    exact AW.ret (qI (k := by simp [xB]))
   ·intro h36
    try simp at h36
    rw [if_neg h36]
    refine AW.skip ?_
    exact ⟨(P, q), ⟨rfl, by simp only []; omega, by simp only []; omega⟩, qB (by simp), rfl, by simp, by simp⟩
  ·intro h29
   try simp at h29
   have hh : ¬ r.head? = some 46 := by rw [hr46] at h29; simpa using h29
   have hF : qIS r = some ([], r) := by unfold qIS; rw [if_neg hh]
   rw [hF]
   refine AW.skip ?_
   exact ⟨([], r), ⟨rfl, by simp, by simp only []; omega⟩, qB (by simp), rfl, by simp, by simp⟩
 ·
  rintro ⟨P, q⟩ ⟨hf, hpl, hql⟩
  simp only at hpl hql
  rw [hf]
  simp only
  have hex := qYY (G := G) q (by omega)
  have hrg := zCL q
  generalize qIU q = e at *
  have hix : ∀ h : W ≠ [], W[0]? = some (W.getD 0 0) := fun h => qON (List.length_pos_iff.2 h)
  refine rgn [.nilp, .tup [.int .i64 (e.getD 0), .bool e.isSome]] [[], [], [], [], [2, 5, 6, 7, 41, 42], [], [2, 5, 6, 7, 10, 11]] ?_
  iterate 7 refine op1 tok ?_ (hv := by first | with_reducible exact True.intro | (exact hex; done) | omega | simp | (simp +contextual; omega))
  refine qA ?_
  refine AW.seq ?_
  refine rgn [.int .u8 (W.getD 0 0).toNat] [[], [], [], [], [2, 5, 6, 7, 10, 45, 47], [], [], [], [2, 5, 6, 7, 10, 49, 51], [], [], [], [], [2, 5, 6, 7, 10, 49, 53, 56], [], [2, 5, 6, 7, 10, 58]] ?_
  iterate 16 first | refine op1 tok ?_ (hv := by first | with_reducible exact True.intro | (first | exact fun h1 h2 h3 => ⟨⟨⟨h1, h2⟩, h3⟩, _, hix h2, rfl⟩ | exact fun h1 h2 => ⟨⟨h1, h2⟩, fun h3 => ⟨⟨h1, h2⟩, h3⟩⟩ | simp; done) | omega | simp | (simp +contextual; omega)) | refine op2 tok ?_ (hv := by first | with_reducible exact True.intro | (first | exact fun h1 h2 h3 => ⟨⟨⟨h1, h2⟩, h3⟩, _, hix h2, rfl⟩ | exact fun h1 h2 => ⟨⟨h1, h2⟩, fun h3 => ⟨⟨h1, h2⟩, h3⟩⟩ | simp; done) | omega | simp | (simp +contextual; omega))
  refine qA ?_
  refine cnd ?_ ?_
  ·intro h58
   try simp at h58
   have hbad : qZB ng W P e = xB := by
    cases e with
    | none => rfl
    | some up =>
     simp only [qZB]
     rw [if_pos]
     rcases h58 with (h | h) | h
     ·cases h
     ·exact .inl h
     ·exact .inr ⟨by omega, zRY h.2⟩
   rw [hbad]
   refine rgn [] [[], [], [2, 3]] ?_
   iterate 3 refine op1 tok ?_
   refine qA ?_
   exact AW.ret (qI (k := by simp [xB]))
  ·intro h58
   try simp at h58
   obtain ⟨up, rfl⟩ : ∃ up, e = some up := by
    cases e with
    | none => exact absurd rfl h58.1.1
    | some up => exact ⟨up, rfl⟩
   have hend : qZB ng W P (some up) = vE ng (W ++ P) (P.length - up) := by
    simp only [qZB]; rw [if_neg]
    rintro (h | ⟨h, h'⟩)
    ·exact h58.1.2 h
    ·refine h58.2 (by omega) ?_
     cases W with
     | nil => simp at h'
     | cons b W => simp at h'; subst h'; rfl
   rw [hend]
   simp only [Option.getD_some] at hrg ⊢
   have hWP : (W ++ P).length ≤ 2000000000 := by simp; omega
   refine AW.skip ?_
   refine rgn [] [[], [], [], [2, 5, 10, 62, 63], [], [], [2, 5, 62, 66], [], [2, 5, 12, 13]] ?_
   iterate 9 refine op1 tok ?_
   refine qA ?_
   refine AW.seq ?_
   refine rgn [] [[], [2, 5, 12, 13, 68]] ?_
   iterate 2 refine op1 tok ?_
   refine qA ?_
   refine cnd ?_ ?_
   ·intro h68
    try simp at h68
    obtain ⟨z, hz⟩ : ∃ z : Nat, (z : Int) = up - P.length := ⟨(up - P.length).toNat, by omega⟩
    have hw3 : IntKind.i64.wrap (-((P.length : Int) - up)) = (z : Int) := by simp [IntKind.wrap, IntKind.bits, IntKind.signed]; omega
    have hrp := qDA (G := G) [48] z (by simp; omega)
    rw [zWH] at hrp
    have hL : vE ng (W ++ P) ((P.length : Int) - up) = yK ng (W ++ (P ++ zA z)) 0 := by
     unfold vE; rw [if_pos h68, show (-((P.length : Int) - up)).toNat = z by omega, List.append_assoc]
    have hzl : (zA z).length = z := by simp [zA]
    rw [hL]
    have hmd := qUT (G := G) ng (W ++ (P ++ zA z)) 0 (by simp [zA] at hWP ⊢; omega) (by omega)
    refine rgz [.nilp, .str (zA z)] [[], [], [], [2, 5, 69, 72], [], [], [2, 5, 12, 13]] ?_
    iterate 7 refine op1 tok ?_ (hv := by first | with_reducible exact True.intro | (first | (rw [hw3]; exact hrp) | (simp at hWP; omega); done) | omega | simp | (simp +contextual; omega))
    refine qA ?_
    refine rgn [.nilp, .tup [(yK ng (W ++ (P ++ zA z)) 0).1.enc, .int .i64 (yK ng (W ++ (P ++ zA z)) 0).2]] [[], [], [], [2, 77], [], [], [], [2, 3]] ?_
    iterate 8 refine op1 tok ?_ (hv := by first | with_reducible exact True.intro | (exact hmd; done) | omega | simp | (simp +contextual; omega))
    refine qA ?_
    exact AW.ret qI
   ·intro h68
    try simp at h68
    obtain ⟨sc, hsc⟩ : ∃ sc : Nat, (sc : Int) = P.length - up := ⟨((P.length : Int) - up).toNat, by omega⟩
    have hL : vE ng (W ++ P) ((P.length : Int) - up) = yK ng (W ++ P) sc := by
     unfold vE; rw [if_neg (by omega), show ((P.length : Int) - up).toNat = sc by omega]
    rw [hL]
    have hmd := qUT (G := G) ng (W ++ P) sc (by omega) (by omega)
    rw [hsc] at hmd
    refine AW.skip ?_
    refine rgn [.nilp, .tup [(yK ng (W ++ P) sc).1.enc, .int .i64 (yK ng (W ++ P) sc).2]] [[], [], [], [2, 77], [], [], [], [2, 3]] ?_
    iterate 8 refine op1 tok ?_ (hv := by first | with_reducible exact True.intro | (exact hmd; done) | omega | simp | (simp +contextual; omega))
    refine qA ?_
    exact AW.ret qI
theorem zAG (d : Dc) (hd : zP d = true) : AFn Tryz.prog G 69 [d.enc] (.str (qEB d)) := by
 refine AFn.introU tok Tryz.func69 (by kernel_rfl) rfl rfl ?_
 simp only [Tryz.f69, qJ, List.map_cons, List.map_nil]
 have hb := qSQ hd
 have hzl : (zA (d.scale.toNat + 1 - d.digits.length)).length = d.scale.toNat + 1 - d.digits.length := by simp [zA]
 have hpl : (qCL d).length = d.scale.toNat + 1 - d.digits.length + d.digits.length := by simp [qCL, zA]
 have hP : qEB d = (if d.neg = true then [45] else []) ++ (if d.scale = 0 then qCL d else (qCL d).take ((qCL d).length - d.scale.toNat) ++ 46 :: (qCL d).drop ((qCL d).length - d.scale.toNat)) := rfl
 have hpad : zA (d.scale.toNat + 1 - d.digits.length) ++ d.digits = qCL d := rfl
 rw [hP]
 have hz := qCB (G := G) (d.scale - d.digits.length + 1) (by omega)
 rw [show (d.scale - (d.digits.length : Int) + 1).toNat = d.scale.toNat + 1 - d.digits.length by omega] at hz
 refine rgn [] [[], [1]] ?_
 iterate 2 refine op1 tok ?_
 refine qA ?_
 refine rgn [] [[], [], [1, 3]] ?_
 iterate 3 refine op1 tok ?_
 refine qA ?_
 refine AW.join (α := Unit) (fun _ => True) (fun a => ⟨qW 44 [(1, .ptr 1 0), (3, .p (.str (qCL d)))], [], [(1, .vars 26 [.p (.bool d.neg), .p (.str d.digits), .p (.int .i64 d.scale)])], 0⟩) ?_ ?_
 ·
  refine rgn [] [[], [], [], [], [1, 3, 10]] ?_
  iterate 5 refine op1 tok ?_
  refine qA ?_
  refine cnd ?_ ?_
  ·intro h10
   try simp at h10
   refine rgz [.nilp, .str (zA (d.scale.toNat + 1 - d.digits.length))] [[], [], [], [], [1, 3, 15], [], [], [], [1, 19], [1, 3]] ?_
   iterate 10 refine op1 tok ?_ (hv := by first | with_reducible exact True.intro | (first | exact hz | omega; done) | omega | simp | (simp +contextual; omega))
   refine qA ?_
   exact ⟨(), trivial, qB (by simp [hpad]), rfl, by simp [hpad], by simp [hpad]⟩
  ·intro h10
   try simp at h10
   have hnp : qCL d = d.digits := by unfold qCL; rw [show d.scale.toNat + 1 - d.digits.length = 0 by omega]; rfl
   refine AW.skip ?_
   exact ⟨(), trivial, qB (by simp [hnp]), rfl, by simp [hnp], by simp [hnp]⟩
 ·
  rintro a hI
  have hk : ((qCL d).length - d.scale).toNat = (qCL d).length - d.scale.toNat := by omega
  generalize qCL d = pd at *
  refine AW.seq ?_
  refine rgn [] [[], [], [1, 3, 22]] ?_
  iterate 3 refine op1 tok ?_
  refine qA ?_
  refine cnd ?_ ?_
  ·intro h22
   try simp at h22
   refine AW.runDrawK tok mixed [1, 3] 16 [[3], [3], [24], [1], [26], [25, 27], [23, 28], [29], [3], [3], [32], [1], [34], [33, 35], [31, 36], [30, 37]] [] [] (by kernel_rfl) (by intro C; conv => lhs; simp) (by omega) (by simp [Sm.sum, Sm.foot, Sm.tch, Sm.refs]; kernel_rfl) (by intro C; conv => lhs; simp) (by first | with_reducible exact True.intro | omega | simp | (simp +contextual; omega)) ?_
   refine AW.seq ?_
   refine rgn [] [[], [3, 40]] ?_
   iterate 2 refine op1 tok ?_
   refine qA ?_
   refine cnd ?_ ?_
   ·intro h40
    try simp at h40
    refine rgn [] [[], [], [2]] ?_
    iterate 3 refine op1 tok ?_
    refine qA ?_
    exact AW.ret (qI (k := by simp [show ¬ d.scale = 0 by omega, h40, hk]))
   ·intro h40
    try simp at h40
    refine AW.skip ?_
    refine rgn [] [[], [2]] ?_
    iterate 2 refine op1 tok ?_
    refine qA ?_
    exact AW.ret (qI (k := by simp [show ¬ d.scale = 0 by omega, h40, hk]))
  ·intro h22
   try simp at h22
   refine AW.skip ?_
   refine AW.seq ?_
   refine rgn [] [[], [3, 40]] ?_
   iterate 2 refine op1 tok ?_
   refine qA ?_
   refine cnd ?_ ?_
   ·intro h40
    try simp at h40
    refine rgn [] [[], [], [2]] ?_
    iterate 3 refine op1 tok ?_
    refine qA ?_
    exact AW.ret (qI (k := by simp [show d.scale = 0 by omega, h40]))
   ·intro h40
    try simp at h40
    refine AW.skip ?_
    refine rgn [] [[], [2]] ?_
    iterate 2 refine op1 tok ?_
    refine qA ?_
    exact AW.ret (qI (k := by simp [show d.scale = 0 by omega, h40]))
def zMW (u : Bool) : V := if u then .ptr 2 0 else .p .nilp
def qEJ (u : Bool) (bs : List UInt8) : List (Nat × Box) := [(2, .vars 163 [zMW u, .ms 3]), (3, .row 5 1 (qO bs))]
theorem zAA : (Tryz.prog.info? 163).map (·.size) = some 2 := by kernel_rfl
theorem zMV : liesAt Tryz.prog Tryz.prog.depth 163 (2 / Tryz.prog.cellsOf 163) 0 163 1 = true := by kernel_rfl
section
set_option maxHeartbeats 1000000 in
theorem zPM (b : Nat) (w : World) (h0 : w.cell? ⟨b, 0, none⟩ = some (.pointer (some ⟨b, 0, none⟩))) :
  Calls Tryz.prog 204 #[.pointer (some ⟨b, 0, none⟩)] w fun e w' => e = .returned (.tuple #[]) ∧ w' = w := by
 obtain ⟨j, hj, _⟩ := Option.map_eq_some_iff.1 zAA
 go_enter Tryz.func204, Tryz.ntmps204
 go_wp2
 rw [Lib.run_neq_ptr_same w _ Tryz.underlying161 hj]
 go_wp2
 go_end0
 exact ⟨rfl, rfl⟩
set_option maxHeartbeats 1000000 in
theorem zMN (b : Nat) (w : World) (h0 : w.cell? ⟨b, 0, none⟩ = some (.pointer none)) (hsh : w.shape? b = some (163, 2)) (hfz : w.frozen? ⟨b, 0, none⟩ = false) :
  Calls Tryz.prog 204 #[.pointer (some ⟨b, 0, none⟩)] w fun e w' => e = .returned (.tuple #[]) ∧ w' = w.setCell ⟨b, 0, none⟩ (.pointer (some ⟨b, 0, none⟩)) := by
 obtain ⟨j, hj, hjs⟩ := Option.map_eq_some_iff.1 zAA
 go_enter Tryz.func204, Tryz.ntmps204
 go_wp2
 rw [Lib.run_to_unsafe w ⟨b, 0, none⟩ Tryz.underlying161 Tryz.underlying232 hj (by rw [hjs]; decide) hsh (Nat.zero_lt_succ 1)]
 simp only [Result.andThen]
 rw [Oper.upon_value]
 go_wp2
 rw [run_callFunc_extern Tryz.func228 (by kernel_rfl) (by kernel_rfl) (by kernel_rfl) (e := Extern.AbiNoEscape.same) (by kernel_rfl)]
 rw [Lib.run_noEscape]
 simp only [Result.andThen]
 rw [Oper.upon_value]
 go_wp2
 rw [Lib.run_from_unsafe w ⟨b, 0, none⟩ Tryz.underlying232 Tryz.underlying161 hj hsh zMV]
 simp only [Result.andThen]
 rw [Oper.upon_value]
 go_wp2
 go_end0
 exact ⟨rfl, rfl⟩
end
theorem qIX (u : Bool) (bs : List UInt8) : AX Tryz.prog G 204 [.ptr 2 0] (qEJ u bs) (.tuple []) [2, 3] (qEJ true bs) := by
 refine ⟨uQ Tryz.func204 (by kernel_rfl) rfl, fun M μ w vs hg rel => ?_⟩
 obtain ⟨l⟩ := vs
 have hsz : l.length = 1 := by simpa using rel.slots.1
 match l, hsz with
 | [v], _ =>
 have hv := rel.slots.2 0 v (.ptr 2 0) rfl rfl
 cases hv with
 | @ptr _ _ b hb =>
 have hbx := rel.box 2 (.vars 163 [zMW u, .ms 3]) (by simp [qEJ])
 cases hbx with
 | @vars _ _ b' arr h0 hh hs ho hc =>
 rw [hb] at h0; cases h0
 obtain ⟨x, y, rfl⟩ : ∃ x y, arr = #[x, y] := by
  obtain ⟨l⟩ := arr
  match l, hs with
  | [x, y], _ => exact ⟨x, y, rfl⟩
 have hx := hc 0 x (zMW u) rfl rfl
 have hy := hc 1 y (.ms 3) rfl rfl
 have hfin : ∀ w', Rel ⟨w.heap.size, w, M, μ, yG μ (qEJ u bs)⟩ M μ ⟨[.ptr 2 0], (qEJ u bs).map (·.1), qEJ true bs, 0⟩ #[.pointer (some ⟨b, 0, none⟩)] w' →
   ∃ v M' μ', (Ending.returned (.tuple #[]) : Ending) = .returned v ∧ Rel ⟨w.heap.size, w, M, μ, yG μ (qEJ u bs)⟩ M' μ' ⟨[.tuple []], [2, 3], qEJ true bs, 0⟩ #[v] w' := by
  intro w' r
  refine ⟨_, M, μ, rfl, { r with slots := ⟨rfl, fun i u x hu hx => ?_⟩, pins := fun _ _ => rfl }⟩
  cases i with
  | zero => simp at hu hx; subst hu; subst hx; exact .tuple rfl fun i u x hu => by simp at hu
  | succ i => simp at hx
 cases u with
 | true =>
  obtain rfl : x = .pointer (some ⟨b, 0, none⟩) := by
   cases hx with
   | ptr h => rw [hb] at h; cases h; rfl
  refine (zPM b w (by rw [zM hh]; rfl)).mono ?_
  rintro e w' ⟨rfl, rfl⟩
  exact hfin _ rel
 | false =>
  obtain rfl : x = .pointer none := by
   cases hx with
   | p h => cases h; rfl
  refine (zMN b w (by rw [zM hh]; rfl) (by simp [World.shape?, hh]) (by simp [World.frozen?, hh])).mono ?_
  rintro e w' ⟨rfl, rfl⟩
  refine hfin _ ?_
  have ht : Turned w (w.setCell ⟨b, 0, none⟩ (.pointer (some ⟨b, 0, none⟩))) b :=
   ⟨rfl, rfl, rfl, by simp [World.setCell], fun k hk => RowKit.Below.heap_setCell w ⟨b, 0, none⟩ _ k hk⟩
  have := rel.write (id := 2) (bx := .vars 163 [zMW true, .ms 3]) (by simp [qL, qEJ]) hb ht (.vars (arr := #[.pointer (some ⟨b, 0, none⟩), y]) hb (by simp only [World.setCell, Array.getElem?_modify, if_pos, hh]; simp) rfl (fun i u hu => ?_) (fun i u x hu hx => ?_))
  ·simpa [qEJ, zZ] using this
  ·match i, hu with
   | 0, hu => simp at hu; subst hu; rfl
   | 1, hu => exact ho 1 u (by simpa using hu)
   | i + 2, hu => simp at hu
  ·match i, hu, hx with
   | 0, hu, hx => simp at hu hx; subst hu; subst hx; exact .ptr hb
   | 1, hu, hx => simp at hu hx; subst hu; subst hx; exact hy
   | i + 2, hu, hx => simp at hu
theorem zSD (bs : List UInt8) : AX Tryz.prog G 204 [.ptr 2 0] [(2, .vars 163 [.p .nilp, .ms 3]), (3, .row 5 1 (qO bs))] (.tuple []) [2, 3] [(2, .vars 163 [.ptr 2 0, .ms 3]), (3, .row 5 1 (qO bs))] := qIX false bs
theorem zWT (bs : List UInt8) : AX Tryz.prog G 204 [.ptr 2 0] [(2, .vars 163 [.ptr 2 0, .ms 3]), (3, .row 5 1 (qO bs))] (.tuple []) [2, 3] [(2, .vars 163 [.ptr 2 0, .ms 3]), (3, .row 5 1 (qO bs))] := qIX true bs
open Go.Shelf Go.RowKit
section
variable {P : Program} {ρ : Ren}
abbrev qQJ (g : Nat) (w w' : World) : Prop := Kept (fun k => k = g ∨ w.heap.size ≤ k) w w'
theorem qJU (g : Nat) (w : World) : qQJ g w w.drew := ⟨rfl, rfl, rfl, Nat.le_refl _, fun _ _ => rfl⟩
theorem qYE (g : Nat) (w : World) (n : Nat) : qQJ g w (w.drew.freeze ⟨g, 0, none⟩ n) := by
 unfold World.freeze
 split
 ·exact qJU g w
 ·exact ⟨rfl, rfl, rfl, by simp only [Array.size_modify]; exact Nat.le_refl _, fun k hk => by
   simp only [Array.getElem?_modify]
   rw [if_neg (by omega)]; rfl⟩
theorem qNU (g : Nat) (w : World) (o : Obj) : qQJ g w (w.alloc o).drew := ⟨rfl, rfl, rfl, by show w.heap.size ≤ (w.heap.push o).size; simp, fun k hk => by
 show (w.heap.push o)[k]? = _
 rw [Array.getElem?_push, if_neg (by omega)]⟩
theorem qYF (g : Nat) (w : World) (o : Obj) : qQJ g w (w.drew.alloc o) := qNU g w o
set_option maxHeartbeats 1000000 in
theorem zPQ (L : Lays.n169 P ρ) (X : Builder.Extra P ρ) (b g cap : Nat) (p : Value) (cur : Array Value) (l : List UInt8) (w : World) (hbk : w.heap[b]? = some (.cells #[p, .slice (some ⟨g, 0, none⟩) l.length cap] (ρ.t 72) (0, 0)))
  (hg : w.heap[g]? = some (.cells cur (ρ.t 5) (0, 0))) (hnc : l.length ≤ cap) (hcm : cap ≤ maxLen) (hcs : cur.size = cap) (hcells : ∀ (j : Nat) (x : UInt8), l[j]? = some x → cur[j]? = some (Value.int .u8 x.toNat)) (h0 : l ≠ []) :
  Calls P (ρ.f 169) #[.pointer (some ⟨b, 0, none⟩)] w fun e w' => e = .returned (.string ⟨l.toArray⟩) ∧ qQJ g w w' := by
 have hl0 : l.length ≠ 0 := by simpa using h0
 have c1 : w.drew.cell? ⟨b, 1, none⟩ = some (.slice (some ⟨g, 0, none⟩) l.length cap) := by
  have : w.drew.heap[b]? = some (.cells #[p, .slice (some ⟨g, 0, none⟩) l.length cap] (ρ.t 72) (0, 0)) := hbk
  rw [Lib.cell_of_heap this]; rfl
 have hSD : (Builtin.unsafeSliceData_ #[(ρ.t 37)] (ρ.t 127) #[.slice (some ⟨g, 0, none⟩) l.length cap]).run P w.drew = .ok (.pointer (some ⟨g, 0, none⟩)) w.drew :=
  Lib.run_unsafeSliceData_row _ _ _ _ _ _ (by omega)
 have hUS : (Builtin.unsafeString_ #[(ρ.t 127), (ρ.t 3)] (ρ.t 9) #[.pointer (some ⟨g, 0, none⟩), .int .i64 l.length]).run P w.drew = .ok (.string ⟨l.toArray⟩) (w.drew.freeze ⟨g, 0, none⟩ l.length) := by
  refine Lib.run_unsafeString_row w.drew (ρ.t 127) (ρ.t 3) (ρ.t 9) (ρ.t 5) L.t127 X.cellsByte g cur.size (by have hg' : w.drew.heap[g]? = some (.cells cur (ρ.t 5) (0, 0)) := hg; simp [World.shape?, hg']) l h0 (by omega) (by unfold maxLen at hcm; omega) ?_
  intro j x hx
  have hg' : w.drew.heap[g]? = some (.cells cur (ρ.t 5) (0, 0)) := hg
  rw [jT, Nat.zero_add, Lib.cell_of_heap hg']
  exact hcells j x hx
 have mixed := L.mixed
 have t72 := L.t72; have a72 := L.a72; have z72 := L.z72; have v72 := L.v72; have u72 := run_underlying L.t72
 have t70 := L.t70; have a70 := L.a70; have z70 := L.z70; have v70 := L.v70; have u70 := run_underlying L.t70
 have t37 := L.t37; have a37 := L.a37; have z37 := L.z37; have v37 := L.v37; have u37 := run_underlying L.t37
 have t127 := L.t127; have a127 := L.a127; have z127 := L.z127; have v127 := L.v127; have u127 := run_underlying L.t127
 have t3 := L.t3; have a3 := L.a3; have z3 := L.z3; have v3 := L.v3; have u3 := run_underlying L.t3
 have t9 := L.t9; have a9 := L.a9; have z9 := L.z9; have v9 := L.v9; have u9 := run_underlying L.t9
 have t5 := X.t5; have a5 := X.a5; have z5 := X.z5; have v5 := X.v5; have u5 := run_underlying X.t5
 go_enter L.f169, Body.n169_ntmps ρ
 go_wp2
 go_region_o
 all_goals (go_wp2; go_ret; exact ⟨rfl, qYE g w _⟩)
set_option maxHeartbeats 2000000 in
theorem zPR (L : Lays.n169 P ρ) (X : Builder.Extra P ρ) (b : Nat) (p : Value) (w : World) (hbk : w.heap[b]? = some (.cells #[p, .slice none 0 0] (ρ.t 72) (0, 0))) :
  Calls P (ρ.f 169) #[.pointer (some ⟨b, 0, none⟩)] w fun e w' => e = .returned (.string ⟨#[]⟩) ∧ qQJ w.heap.size w w' := by
 have hUS := Any.unsafeString_none L X
 have c1 : w.drew.cell? ⟨b, 1, none⟩ = some (.slice none 0 0) := by
  have : w.drew.heap[b]? = some (.cells #[p, .slice none 0 0] (ρ.t 72) (0, 0)) := hbk
  rw [Lib.cell_of_heap this]; rfl
 have hSD : (Builtin.unsafeSliceData_ #[(ρ.t 37)] (ρ.t 127) #[.slice none 0 0]).run P w.drew = .ok (.pointer none) w.drew := rfl
 have mixed := L.mixed
 have t72 := L.t72; have a72 := L.a72; have z72 := L.z72; have v72 := L.v72; have u72 := run_underlying L.t72
 have t70 := L.t70; have a70 := L.a70; have z70 := L.z70; have v70 := L.v70; have u70 := run_underlying L.t70
 have t37 := L.t37; have a37 := L.a37; have z37 := L.z37; have v37 := L.v37; have u37 := run_underlying L.t37
 have t127 := L.t127; have a127 := L.a127; have z127 := L.z127; have v127 := L.v127; have u127 := run_underlying L.t127
 have t3 := L.t3; have a3 := L.a3; have z3 := L.z3; have v3 := L.v3; have u3 := run_underlying L.t3
 have t9 := L.t9; have a9 := L.a9; have z9 := L.z9; have v9 := L.v9; have u9 := run_underlying L.t9
 have t5 := X.t5; have a5 := X.a5; have z5 := X.z5; have v5 := X.v5; have u5 := run_underlying X.t5
 go_enter L.f169, Body.n169_ntmps ρ
 go_wp2
 go_region_o
 all_goals (go_wp2; go_ret; exact ⟨rfl, qJU _ w⟩)
set_option maxHeartbeats 2000000 in
theorem zMU (L : Lays.n169 P ρ) (X : Builder.Extra P ρ) (b g : Nat) (p : Value) (cur : Array Value) (w : World) (hlt : b < w.heap.size) (hbk : w.heap[b]? = some (.cells #[p, .slice (some ⟨g, 0, none⟩) 0 0] (ρ.t 72) (0, 0))) (hg : w.heap[g]? = some (.cells cur (ρ.t 5) (0, 0))) :
  Calls P (ρ.f 169) #[.pointer (some ⟨b, 0, none⟩)] w fun e w' => e = .returned (.string ⟨#[]⟩) ∧ qQJ g w w' := by
 have hUS := Any.unsafeString_none L X
 have c1 : w.drew.cell? ⟨b, 1, none⟩ = some (.slice (some ⟨g, 0, none⟩) 0 0) := by
  have : w.drew.heap[b]? = some (.cells #[p, .slice (some ⟨g, 0, none⟩) 0 0] (ρ.t 72) (0, 0)) := hbk
  rw [Lib.cell_of_heap this]; rfl
 have hSD : (Builtin.unsafeSliceData_ #[(ρ.t 37)] (ρ.t 127) #[.slice (some ⟨g, 0, none⟩) 0 0]).run P w.drew = .ok (.pointer (some ⟨w.drew.heap.size, 0, none⟩)) (w.drew.alloc (.view ⟨g, 0, none⟩ (ρ.t 5))) :=
  Lib.run_unsafeSliceData_zero w.drew _ _ (ρ.t 5) L.t127 ⟨g, 0, none⟩ 0 ((ρ.t 5), cur.size) (by have hg' : w.drew.heap[g]? = some (.cells cur (ρ.t 5) (0, 0)) := hg; simp [World.shape?, hg'])
 have c2 : (w.drew.alloc (.view ⟨g, 0, none⟩ (ρ.t 5))).cell? ⟨b, 1, none⟩ = some (.slice (some ⟨g, 0, none⟩) 0 0) := by
  have : (w.drew.alloc (.view ⟨g, 0, none⟩ (ρ.t 5))).heap[b]? = _ := (Lib.alloc_old w.drew _ b hlt).trans hbk
  rw [Lib.cell_of_heap this]; rfl
 have c3 : (w.alloc (.view ⟨g, 0, none⟩ (ρ.t 5))).drew.cell? ⟨b, 1, none⟩ = some (.slice (some ⟨g, 0, none⟩) 0 0) := c2
 have c0 : w.cell? ⟨b, 1, none⟩ = some (.slice (some ⟨g, 0, none⟩) 0 0) := c1
 have mixed := L.mixed
 have t72 := L.t72; have a72 := L.a72; have z72 := L.z72; have v72 := L.v72; have u72 := run_underlying L.t72
 have t70 := L.t70; have a70 := L.a70; have z70 := L.z70; have v70 := L.v70; have u70 := run_underlying L.t70
 have t37 := L.t37; have a37 := L.a37; have z37 := L.z37; have v37 := L.v37; have u37 := run_underlying L.t37
 have t127 := L.t127; have a127 := L.a127; have z127 := L.z127; have v127 := L.v127; have u127 := run_underlying L.t127
 have t3 := L.t3; have a3 := L.a3; have z3 := L.z3; have v3 := L.v3; have u3 := run_underlying L.t3
 have t9 := L.t9; have a9 := L.a9; have z9 := L.z9; have v9 := L.v9; have u9 := run_underlying L.t9
 have t5 := X.t5; have a5 := X.a5; have z5 := X.z5; have v5 := X.v5; have u5 := run_underlying X.t5
 go_enter L.f169, Body.n169_ntmps ρ
 go_wp2
 go_region_o
 all_goals (go_wp2; go_ret; first | exact ⟨rfl, qNU g w _⟩ | exact ⟨rfl, qYF g w _⟩)
set_option maxHeartbeats 2000000 in
theorem zMT (L : Lays.n169 P ρ) (X : Builder.Extra P ρ) (b g cap : Nat) (p : Value) (w : World) (hc0 : cap ≠ 0) (hbk : w.heap[b]? = some (.cells #[p, .slice (some ⟨g, 0, none⟩) 0 cap] (ρ.t 72) (0, 0))) :
  Calls P (ρ.f 169) #[.pointer (some ⟨b, 0, none⟩)] w fun e w' => e = .returned (.string ⟨#[]⟩) ∧ qQJ g w w' := by
 have hUS := Any.unsafeString_none L X
 have c1 : w.drew.cell? ⟨b, 1, none⟩ = some (.slice (some ⟨g, 0, none⟩) 0 cap) := by
  have : w.drew.heap[b]? = some (.cells #[p, .slice (some ⟨g, 0, none⟩) 0 cap] (ρ.t 72) (0, 0)) := hbk
  rw [Lib.cell_of_heap this]; rfl
 have hSD : (Builtin.unsafeSliceData_ #[(ρ.t 37)] (ρ.t 127) #[.slice (some ⟨g, 0, none⟩) 0 cap]).run P w.drew = .ok (.pointer (some ⟨g, 0, none⟩)) w.drew :=
  Lib.run_unsafeSliceData_row _ _ _ _ _ _ hc0
 clear hc0
 have mixed := L.mixed
 have t72 := L.t72; have a72 := L.a72; have z72 := L.z72; have v72 := L.v72; have u72 := run_underlying L.t72
 have t70 := L.t70; have a70 := L.a70; have z70 := L.z70; have v70 := L.v70; have u70 := run_underlying L.t70
 have t37 := L.t37; have a37 := L.a37; have z37 := L.z37; have v37 := L.v37; have u37 := run_underlying L.t37
 have t127 := L.t127; have a127 := L.a127; have z127 := L.z127; have v127 := L.v127; have u127 := run_underlying L.t127
 have t3 := L.t3; have a3 := L.a3; have z3 := L.z3; have v3 := L.v3; have u3 := run_underlying L.t3
 have t9 := L.t9; have a9 := L.a9; have z9 := L.z9; have v9 := L.v9; have u9 := run_underlying L.t9
 have t5 := X.t5; have a5 := X.a5; have z5 := X.z5; have v5 := X.v5; have u5 := run_underlying X.t5
 go_enter L.f169, Body.n169_ntmps ρ
 go_wp2
 go_region_o
 all_goals (go_wp2; go_ret; exact ⟨rfl, qJU _ w⟩)
end
theorem qDY : Builder.Extra Tryz.prog Tryz.lays169_ren where
 sizeBuilder := by kernel_rfl
 liesBuilder := by kernel_rfl
 t5 := Tryz.underlying5
 a5 := Tryz.isAgg5
 z5 := Tryz.sizeOf5
 v5 := Tryz.zeroValue5
 infoByte := by kernel_rfl
 cellsByte := by kernel_rfl
 sizeByte := by kernel_rfl
 neB5 := by decide
theorem qQG (u : Bool) (bs : List UInt8) : AX Tryz.prog G 157 [.ptr 2 0] (qEJ u bs) (.p (.str bs)) [] [] := by
 refine ⟨uQ Tryz.func157 (by kernel_rfl) rfl, fun M μ w vs hg rel => ?_⟩
 obtain ⟨l⟩ := vs
 have hsz : l.length = 1 := by simpa using rel.slots.1
 match l, hsz with
 | [v], _ =>
 have hv := rel.slots.2 0 v (.ptr 2 0) rfl rfl
 cases hv with
 | @ptr _ _ b hb =>
 have hbx := rel.box 2 (.vars 163 [zMW u, .ms 3]) (by simp [qEJ])
 cases hbx with
 | @vars _ _ b' arr h0 hh hs ho hc =>
 rw [hb] at h0; cases h0
 obtain ⟨x, y, rfl⟩ : ∃ x y, arr = #[x, y] := by
  obtain ⟨l⟩ := arr
  match l, hs with
  | [x, y], _ => exact ⟨x, y, rfl⟩
 have hy := hc 1 y (.ms 3) rfl rfl
 have hblt : b < w.heap.size := (Array.getElem?_eq_some_iff.1 hh).1
 have hfin : ∀ (g : Nat) (w' : World), (g < w.heap.size → yG μ (qEJ u bs) g ∧ ∀ o, M g o = none) → bs.length ≤ maxLen → qQJ g w w' →
   ∃ v M' μ', (Ending.returned (.string ⟨bs.toArray⟩) : Ending) = .returned v ∧ Rel ⟨w.heap.size, w, M, μ, yG μ (qEJ u bs)⟩ M' μ' ⟨[.p (.str bs)], [], [], 0⟩ #[v] w' := by
  intro g w' hl hm hk
  refine ⟨_, M, μ, rfl, ?_⟩
  have hko : ∀ k, k < w.heap.size → k ≠ g → w'.heap[k]? = w.heap[k]? := fun k h1 h2 => hk.block k (by omega)
  refine ⟨fun b o v hv => ?_, fun _ _ _ h => h, fun _ _ _ => rfl, ⟨rfl, fun i u x hu hx => ?_⟩, fun _ h => (by cases h), fun _ _ h => (by cases h), by simp, fun _ _ _ h => by simp [qL] at h, fun _ _ h => by simp [qL] at h, hk.size, ?_⟩
  ·have h1 := rel.mem b o v hv
   have hlt := jG h1
   exact (World.cell?_of_block (w := w) (hko b hlt (by rintro rfl; rw [(hl hlt).2 o] at hv; cases hv))).trans h1
  ·cases i with
   | zero => simp at hu hx; subst hu; subst hx; exact .p (.str (by simp) hm)
   | succ i => simp at hx
  ·refine ⟨hk.os, hk.tape, hk.output, hk.size, fun k h => ?_⟩
   have h1 : k < w.heap.size := Nat.not_le.1 fun h' => h (.inl h')
   exact hko k h1 (by rintro rfl; exact h (.inr (hl h1).1))
 have hrow := rel.box 3 (.row 5 1 (qO bs)) (by simp [qEJ])
 have key : ∃ g, (g < w.heap.size → yG μ (qEJ u bs) g ∧ ∀ o, M g o = none) ∧ bs.length ≤ maxLen ∧ Calls Tryz.prog 157 #[.pointer (some ⟨b, 0, none⟩)] w fun e w' => e = .returned (.string ⟨bs.toArray⟩) ∧ qQJ g w w' := by
  rcases hrow.cells with ⟨he, hn, hval⟩ | ⟨g, cap, cur, hg0, hval, hgh, hcs, hlc, hcm, hone, hro⟩
  ·obtain rfl : bs = [] := by simpa [qO] using he
   have hy' : y = .slice none 0 0 := by cases hy with | ms h _ => rw [h, hval]
   subst hy'
   exact ⟨w.heap.size, fun h => absurd h (Nat.lt_irrefl _), by simp, zPR Tryz.lays169 qDY b x w hh⟩
  ·have hy' : y = .slice (some ⟨g, 0, none⟩) bs.length cap := by cases hy with | ms h _ => rw [h, hval]; simp [qO]
   subst hy'
   have hown := rel.own 3 g (by simp [qL, qEJ]) hg0
   refine ⟨g, fun h => ⟨⟨3, by simp [qL, qEJ], hg0⟩, hown.2.2⟩, by simp [qO] at hlc; omega, ?_⟩
   by_cases hbs : bs = []
   ·subst hbs
    by_cases hc0 : cap = 0
    ·subst hc0; exact zMU Tryz.lays169 qDY b g x cur w hblt hh hgh
    ·exact zMT Tryz.lays169 qDY b g cap x w hc0 hh
   ·refine zPQ Tryz.lays169 qDY b g cap x cur bs w hh hgh (by simpa [qO] using hlc) hcm (by simpa using hcs) (fun j z hz => ?_) hbs
    have hjl := (List.getElem?_eq_some_iff.1 hz).1
    have hj : j < cur.size := by rw [hcs]; simp [qO] at hlc; omega
    have := hro.get j (.int .u8 z.toNat) 0 (.int .u8 z.toNat) cur[j] (by simp [qO, hz]) rfl (by simp [qO, List.getElem?_take, hjl, hj])
    rw [Array.getElem?_eq_getElem hj]
    generalize cur[j] = q at this
    cases this
    rfl
 obtain ⟨g, h1, h2, h3⟩ := key
 refine h3.mono ?_
 rintro e w' ⟨rfl, hk⟩
 exact hfin g w' h1 h2 hk
theorem zIN (bs : List UInt8) : AX Tryz.prog G 157 [.ptr 2 0] [(2, .vars 163 [.ptr 2 0, .ms 3]), (3, .row 5 1 (qO bs))] (.p (.str bs)) [] [] := qQG true bs
@[simp] theorem zSF (a s : List UInt8) : qO (a ++ s) = qO a ++ s.map fun b => .int .u8 b.toNat := by simp [qO]
theorem qQI (bs : List UInt8) (c : UInt8) (hb : bs.length ≤ 100000000000) : AX Tryz.prog G 158 [.ptr 2 0, .p (.int .u8 c.toNat)] [(2, .vars 163 [.p .nilp, .ms 3]), (3, .row 5 1 (qO bs))] (.dead) [2] [(2, .vars 163 [.ptr 2 0, .ms 3]), (3, .row 5 1 (qO (bs ++ [c])))] := by
 refine AX.introU tok 900 Tryz.func158 (by kernel_rfl) rfl rfl ?_
 simp only [Tryz.f158, qJ, List.map_cons, List.map_nil]
 refine rgn [] [[0, 1]] ?_
 refine op1 tok ?_
 refine qA ?_
 refine rgn [] [[]] ?_
 refine op1 tok ?_
 refine qV ?_
 refine qC.stepK [0, 1] (yI rfl (zSD bs) (by simp)) (by conv => lhs; simp) rfl ?_
 refine qC.nil ?_
 refine rgn [.int .u8 c.toNat] [[], [], [], [], [1, 7, 11], [], [], [7, 14], [], [], [17]] ?_
 iterate 11 refine op1 tok ?_
 refine qA ?_
 refine rgn [] [[]] ?_
 refine op1 tok ?_
 refine qA ?_
 exact AW.ret zX
theorem qVT (bs : List UInt8) (c : UInt8) (hb : bs.length ≤ 100000000000) : AX Tryz.prog G 158 [.ptr 2 0, .p (.int .u8 c.toNat)] [(2, .vars 163 [.ptr 2 0, .ms 3]), (3, .row 5 1 (qO bs))] (.dead) [2] [(2, .vars 163 [.ptr 2 0, .ms 3]), (3, .row 5 1 (qO (bs ++ [c])))] := by
 refine AX.introU tok 900 Tryz.func158 (by kernel_rfl) rfl rfl ?_
 simp only [Tryz.f158, qJ, List.map_cons, List.map_nil]
 refine rgn [] [[0, 1]] ?_
 refine op1 tok ?_
 refine qA ?_
 refine rgn [] [[]] ?_
 refine op1 tok ?_
 refine qV ?_
 refine qC.stepK [0, 1] (yI rfl (zWT bs) (by simp)) (by conv => lhs; simp) rfl ?_
 refine qC.nil ?_
 refine rgn [.int .u8 c.toNat] [[], [], [], [], [1, 7, 11], [], [], [7, 14], [], [], [17]] ?_
 iterate 11 refine op1 tok ?_
 refine qA ?_
 refine rgn [] [[]] ?_
 refine op1 tok ?_
 refine qA ?_
 exact AW.ret zX
@[simp] theorem zSE : qO [] = [] := rfl
theorem qMX : ∀ l : List UInt8, xY l ≤ l.length
 | [] => Nat.le_refl _
 | [b] => by simp only [xY]; split <;> (try split) <;> simp
 | b :: c :: u => by
  have h1 := qMX u
  have h2 := qMX (c :: u)
  simp only [xY, List.length_cons] at h2 ⊢
  split
  ·omega
  ·split
   ·omega
   ·omega
theorem qMW (l : List UInt8) : qEN l ≤ l.length := by
 unfold qEN
 split
 ·omega
 ·rename_i h
  have h1 := qMX (l.drop 1)
  have h2 := List.length_pos_iff.2 h
  rw [List.length_drop] at h1; omega
theorem zOD (t : List UInt8) : xY (34 :: t) = 1 := by unfold xY; simp
theorem zOF : xY [92] = 1 := by unfold xY; simp
theorem zOG (d : UInt8) (u : List UInt8) : xY (92 :: d :: u) = 2 + xY u := by rw [xY]; simp
theorem zOE {c : UInt8} (h1 : c ≠ 34) (h2 : c ≠ 92) (t : List UInt8) : xY (c :: t) = 1 + xY t := by
 cases t <;> (rw [xY]; simp [h1, h2, xY])
def qDE (s : List UInt8) (i : Nat) : Nat := if i ≤ s.length then i + xY (s.drop i) else s.length
theorem qXB {s : List UInt8} {i : Nat} {c : UInt8} (h : s[i]? = some c) : qDE s i = if c = 34 then i + 1 else if c = 92 then qDE s (i + 2) else qDE s (i + 1) := by
 have hi := (List.getElem?_eq_some_iff.1 h).1
 have hd : s.drop i = c :: s.drop (i + 1) := by
  rw [List.drop_eq_getElem_cons hi]; congr 1
  have := List.getElem?_eq_getElem hi
  rw [h] at this; exact (Option.some.inj this).symm
 unfold qDE
 rw [if_pos (by omega), hd]
 by_cases h1 : c = 34
 ·rw [if_pos h1, h1, zOD]
 ·rw [if_neg h1]
  by_cases h2 : c = 92
  ·rw [if_pos h2]
   by_cases h3 : i + 2 ≤ s.length
   ·obtain ⟨d, u, hu⟩ : ∃ d u, s.drop (i + 1) = d :: u := by
     cases h4 : s.drop (i + 1) with
     | nil => have := congrArg List.length h4; simp at this; omega
     | cons d u => exact ⟨d, u, rfl⟩
    have hu2 : s.drop (i + 2) = u := by rw [show i + 2 = (i + 1) + 1 by omega, ← List.drop_drop, hu]; rfl
    rw [if_pos h3, hu2, hu, h2, zOG]; omega
   ·have hu : s.drop (i + 1) = [] := List.drop_of_length_le (by omega)
    rw [if_neg h3, hu, h2, zOF]
    have : s.length = i + 1 := by have := congrArg List.length hu; simp at this; omega
    omega
  ·rw [if_neg h2, if_pos (by omega), zOE h1 h2]; omega
theorem zBD (s : List UInt8) : qEN s = qDE s 1 := by
 unfold qEN qDE
 split
 ·rename_i h; subst h; rfl
 ·rename_i h; have := List.length_pos_iff.2 h; rw [if_pos (by omega)]
theorem qQQ {s : List UInt8} (h : (qQR s).isSome = true) : 6 ≤ s.length := by
 unfold qQR at h
 split at h
 ·cases h
 ·omega
theorem zLW {s : List UInt8} (h : (qYZ s).2.2 = true) : (qYZ s).2.1 ≤ s.length := by
 match s with
 | [] => simp [qYZ] at h
 | [a] => simp [qYZ] at h
 | a :: c :: t =>
  have h1 := qQQ (s := a :: c :: t)
  have h2 := qQQ (s := (a :: c :: t).drop 6)
  unfold qYZ at h ⊢
  cases hv : zWQ c with
  | some v => simp only [hv]; simp
  | none =>
   simp only [hv] at h ⊢
   unfold zWP at h ⊢
   generalize qQR (a :: c :: t) = A at *
   generalize qQR ((a :: c :: t).drop 6) = B at *
   split at h
   ·rename_i hc
    rw [if_pos hc]
    simp only [Bool.and_eq_true] at h
    exact h1 h.1
   ·rename_i hc
    rw [if_neg hc]
    simp only [Bool.and_eq_true] at h
    have := h2 h.1
    rw [List.length_drop] at this
    simp only; omega
theorem qJJ : ∀ (f : Nat) (s : List UInt8) (k : Nat) (out : List UInt8), ((vM f s k out).2.2 = 0 ∧ (vM f s k out).2.1 ≤ k + s.length) ∨ (((vM f s k out).2.2 = 3 ∨ (vM f s k out).2.2 = 6) ∧ (vM f s k out).2.1 = 0)
 | 0, s, k, out => .inr (by simp [vM])
 | f + 1, s, k, out => by
  simp only [vM]
  split
  ·exact .inr (by simp)
  ·rename_i hne
   split
   ·split
    ·exact .inr (by simp)
    ·exact .inl ⟨rfl, by have := List.length_pos_iff.2 hne; simp only; omega⟩
   ·split
    ·exact .inr (by simp)
    ·split
     ·cases he : zLV s with
      | none => exact .inr (by simp)
      | some cn =>
       obtain ⟨c, n⟩ := cn
       simp only
       have hn : n ≤ s.length := by
        unfold zLV at he
        split at he
        ·rename_i h; cases he; exact zLW h
        ·cases he
       have := qJJ f (s.drop n) (k + n) (out ++ Lib.encodeRune c)
       rw [List.length_drop] at this
       omega
     ·have hn := Lib.decodeL_le s hne
      have := qJJ f (s.drop (Lib.decodeL s).2) (k + (Lib.decodeL s).2) (out ++ Lib.encodeRune (Lib.decodeL s).1)
      rw [List.length_drop] at this
      omega
theorem qBR (s : List UInt8) : ((zJ s).2.2 = 0 ∧ (zJ s).2.1 ≤ s.length) ∨ (((zJ s).2.2 = 3 ∨ (zJ s).2.2 = 6) ∧ (zJ s).2.1 = 0) := by
 unfold zJ
 split
 ·rename_i h
  have := qJJ s.length (s.drop 1) 1 []
  rw [List.length_drop] at this
  have : 1 ≤ s.length := by cases s with
   | nil => simp at h
   | cons => simp
  omega
 ·exact .inr (by simp)
theorem qQZ (c : UInt8) (many : Nat) (st : RS) : (uH c many st).2.nodes = st.nodes := by
 unfold uH; simp only; split
 ·rfl
 ·split <;> simp
theorem zDQ (c : UInt8) (many : Nat) (st : RS) (h : (uH c many st).2.bad = false) : st.bad = false := by
 unfold uH at h; simp only at h; split at h
 ·rename_i hb; rw [hb] at h; cases h
 ·rename_i hb; simpa using hb
theorem qHX (st : RS) : (qU st).1.nodes = st.nodes := by
 unfold qU qBL; split
 ·rfl
 ·split <;> rfl
theorem zBM (st : RS) (h : (qU st).1.bad = false) : st.bad = false := by
 unfold qU qBL at h; split at h
 ·exact h
 ·split at h
  ·exact h
  ·cases h
theorem qZM (st : RS) : (yA st).nodes = st.nodes := by
 unfold yA; split
 ·rfl
 ·simp
theorem zCZ (st : RS) : (xU st).1.nodes = st.nodes := by
 unfold xU
 split
 ·rfl
 ·split
  ·rfl
  ·split
   ·rfl
   ·split
    ·exact qHX st
    ·split <;> rfl
theorem zMX (st : RS) (h : (xU st).1.bad = false) : st.bad = false := by
 unfold xU at h
 split at h
 ·exact h
 ·split at h
  ·exact h
  ·split at h
   ·exact h
   ·split at h
    ·exact zBM st h
    ·split at h
     ·simp only [kV, Bool.or_eq_false_iff] at h; exact h.1
     ·cases h
theorem zQD : ∀ n : Nat, (∀ st d, (kA n st d).1.bad = false → st.bad = false ∧ (kA n st d).1.nodes + (kA n st d).1.left.length ≤ st.nodes + st.left.length) ∧
  (∀ st d many vs, (qBG n st d many vs).1.bad = false → st.bad = false ∧ (qBG n st d many vs).1.nodes + (qBG n st d many vs).1.left.length ≤ st.nodes + st.left.length) ∧
  (∀ st d many ks vs, (qBF n st d many ks vs).1.bad = false → st.bad = false ∧ (qBF n st d many ks vs).1.nodes + (qBF n st d many ks vs).1.left.length ≤ st.nodes + st.left.length)
 | 0 => ⟨fun st d h => by simp [kA] at h, fun st d many vs h => by simp [qBG] at h, fun st d many ks vs h => by simp [qBF] at h⟩
 | n + 1 => by
  obtain ⟨ih1, ih2, ih3⟩ := zQD n
  refine ⟨fun st d => ?_, fun st d many vs => ?_, fun st d many ks vs => ?_⟩
  ·have he := qZA st d
   have hen : (zT st d).nodes = st.nodes + 1 := rfl
   have heb : (zT st d).bad = st.bad := rfl
   have ht : kB (zT st d).left = (zT st d).left := qAP _
   simp only [kA]
   split
   ·rename_i h
    have h1 := wT h
    have h2 := qKS [93] (wE (zT st d) 1)
    have h5 := qWR [93] (wE (zT st d) 1)
    have h6 := zJH [93] (wE (zT st d) 1)
    simp only [wE, List.length_drop, List.length_cons, List.length_nil] at h1 h2 h5 h6
    split
    ·simp only [wE]; intro hb; exact ⟨by rw [← heb, ← h6]; exact hb, by omega⟩
    ·have h3 := ih2 (tk [93] (wE (zT st d) 1)).2 (d + 1) 1 []
     simp only [wE] at h3 ⊢
     intro hb
     obtain ⟨h7, h8⟩ := h3 hb
     exact ⟨by rw [← heb, ← h6]; exact h7, by omega⟩
   ·split
    ·rename_i h
     have h1 := wT h
     have h2 := qKS [125] (wE (zT st d) 1)
     have h5 := qWR [125] (wE (zT st d) 1)
     have h6 := zJH [125] (wE (zT st d) 1)
     simp only [wE, List.length_drop, List.length_cons, List.length_nil] at h1 h2 h5 h6
     split
     ·simp only [wE]; intro hb; exact ⟨by rw [← heb, ← h6]; exact hb, by omega⟩
     ·have h3 := ih3 (tk [125] (wE (zT st d) 1)).2 (d + 1) 1 [] []
      simp only [wE] at h3 ⊢
      intro hb
      obtain ⟨h7, h8⟩ := h3 hb
      exact ⟨by rw [← heb, ← h6]; exact h7, by omega⟩
    ·have h1 := zFA (zT st d) ht
     have h2 := zCZ (zT st d)
     intro hb
     have := h1.2 hb
     exact ⟨heb ▸ zMX _ hb, by omega⟩
  ·simp only [qBG]
   split
   ·rename_i hb; intro h; simp only at h; rw [h] at hb; cases hb
   ·rename_i hb
    have hb' : st.bad = false := by simpa using hb
    have h1 := ih1 st d
    have h2 := qTY 93 many (kA n st d).1
    have h3 := qQZ 93 many (kA n st d).1
    have h4 := zDQ 93 many (kA n st d).1
    split
    ·simp only; intro h; have := h1 (h4 h); exact ⟨hb', by omega⟩
    ·intro h
     obtain ⟨h5, h6⟩ := ih2 (uH 93 many (kA n st d).1).2 d (many + 1) (vs ++ [(kA n st d).2]) h
     have := h1 (h4 h5); exact ⟨hb', by omega⟩
  ·simp only [qBF]
   split
   ·rename_i hb; intro h; simp only at h; rw [h] at hb; cases hb
   ·rename_i hb
    have hb' : st.bad = false := by simpa using hb
    have h1 := qJS st
    have h1' := qHX st
    have h2 := qZN (qU st).1
    have h2' := qZM (qU st).1
    have h3 := ih1 (yA (qU st).1) d
    generalize hA : (if (yA (qU st).1).bad = true then (yA (qU st).1, ks, vs) else ((kA n (yA (qU st).1) d).1, jY ks vs (qU st).2 (kA n (yA (qU st).1) d).2)) = A
    have h4 : A.1.bad = false → A.1.nodes + A.1.left.length ≤ st.nodes + st.left.length := by
     rw [← hA]; split
     ·rename_i h; intro h'; simp only at h'; rw [h] at h'; cases h'
     ·intro h'; have := (h3 h').2; simp only; omega
    have h5 := qTY 125 many A.1
    have h6 := qQZ 125 many A.1
    have h7 := zDQ 125 many A.1
    split
    ·simp only; intro h; have := h4 (h7 h); exact ⟨hb', by omega⟩
    ·intro h
     obtain ⟨h8, h9⟩ := ih3 (uH 125 many A.1).2 d (many + 1) A.2.1 A.2.2 h
     have := h4 (h7 h8); exact ⟨hb', by omega⟩
def zRW (n : Nat) (st : RS) (d : Nat) : RS × List Val := if (tk [93] st).1 = true then ((tk [93] st).2, []) else qBG n (tk [93] st).2 d 1 []
theorem qYK (n : Nat) (st : RS) (d many : Nat) (vs : List Val) : qBG (n + 1) st d many vs = if st.bad = true then (st, vs) else if (uH 93 many (kA n st d).1).1 = true then ((uH 93 many (kA n st d).1).2, vs ++ [(kA n st d).2]) else qBG n (uH 93 many (kA n st d).1).2 d (many + 1) (vs ++ [(kA n st d).2]) := by
 simp only [qBG]
def zHO (ks : List (List UInt8)) (s : List UInt8) : Int := if s ∈ ks then (ks.idxOf s : Int) else -1
theorem zOX (l : List (List UInt8)) (s : List UInt8) : AX Tryz.prog G 137 [.ms 3, .p (.str s)] [(3, .row 9 1 (l.map PD.str))] (.p (.int .i64 (zHO l s))) [3] [(3, .row 9 1 (l.map PD.str))] := by
 refine AX.introU tok 900 Tryz.func137 (by kernel_rfl) rfl rfl ?_
 simp only [Tryz.f137, qJ, List.map_cons, List.map_nil]
 refine rgn [] [[0, 1]] ?_
 refine op1 tok ?_
 refine qA ?_
 refine AW.seq ?_
 refine rgn [] [[], [], [0, 1, 7, 8]] ?_
 iterate 3 refine op1 tok ?_
 refine qA ?_
 refine AW.block ?_
 refine AW.intFactU (i := 7) rfl (by decide) ?_; intro hlen; simp at hlen
 refine AW.loop (α := Nat) (fun k => k ≤ l.length ∧ s ∉ l.take k) (fun k => ⟨qW 19 [(0, .ms 3), (1, .p (.str s)), (7, .p (.int .i64 l.length)), (8, .p (.int .i64 k))], [3], [(3, .row 9 1 (l.map PD.str))], 900⟩) (fun k => l.length - k) (0) ⟨by omega, by simp⟩ ⟨qB (by simp), rfl, by simp, by simp⟩ ?_
 rintro k ⟨hk, hno⟩
 refine rgn [] [[]] ?_
 refine op1 tok ?_
 refine qA ?_
 refine AW.seq ?_
 refine cnd ?_ ?_
 ·intro h9
  try simp at h9
  obtain ⟨x, hx⟩ : ∃ x, l[k]? = some x := ⟨l[k], by simp [h9]⟩
  refine AW.skip ?_
  refine AW.seq ?_
  refine AW.block ?_
  refine rgn [] [[], [0, 1, 5, 7, 8]] ?_
  iterate 2 refine op1 tok ?_
  refine qA ?_
  refine rgn [.str x] [[], [], [], [], [], [0, 1, 5, 7, 8, 16]] ?_
  iterate 6 refine op1 tok ?_ (hv := by first | with_reducible exact True.intro | (simp [hx]; done) | omega | simp | (simp +contextual; omega))
  refine qA ?_
  refine cnd ?_ ?_
  ·intro h16
   try simp at h16
   have hR : zHO l s = k := by
    have hm : s ∈ l := by rw [h16]; exact List.mem_of_getElem? hx
    unfold zHO; rw [if_pos hm]
    have : l.idxOf s = k := by
     obtain ⟨h1, h2⟩ := List.getElem?_eq_some_iff.1 hx
     have h3 := List.take_append_drop k l
     rw [← h3, List.idxOf_append, if_neg hno, List.drop_eq_getElem_cons h1, h2, h16, List.idxOf_cons_self]
     simp; omega
    rw [this]
   refine rgn [] [[], [4]] ?_
   iterate 2 refine op1 tok ?_
   refine qA ?_
   exact AW.ret (zX (k := by simp [hR]))
  ·intro h16
   try simp at h16
   refine AW.skip ?_
   refine rgz [] [[], [0, 1, 7, 8]] ?_
   iterate 2 refine op1 tok ?_
   refine qA ?_
   exact ⟨k + 1, ⟨by omega, by rw [List.take_add_one, hx]; simp; exact ⟨hno, h16⟩⟩, by omega, qB (by simp), rfl, by simp, by simp⟩
 ·intro h9
  try simp at h9
  have hR : zHO l s = -1 := by rw [List.take_of_length_le h9] at hno; unfold zHO; rw [if_neg hno]
  refine AW.exit ?_
  simp
  refine rgn [] [[]] ?_
  refine op1 tok ?_
  refine qA ?_
  exact AW.ret (zX (k := by simp [hR]))
def zOP (n : Nat) (st : RS) (d : Nat) : RS × List (List UInt8) × List Val := if (tk [125] st).1 = true then ((tk [125] st).2, [], []) else qBF n (tk [125] st).2 d 1 [] []
theorem qUG {ks : List (List UInt8)} {vs : List Val} (h : ks.length = vs.length) (key : List UInt8) (v : Val) : (jY ks vs key v).1.length = (jY ks vs key v).2.length ∧ vs.length ≤ (jY ks vs key v).2.length ∧ (jY ks vs key v).2.length ≤ vs.length + 1 := by
 unfold jY; split
 ·simp [h]
 ·simp [h]
end Go.Proofs.YtdojfdaglbphlaaGreatDoor
namespace Go.Proofs.YtdojfdaglbphlaaGreatDoor.Sy
open Go
mutual
def PD.flat : PD → Bool
 | .bool _ => true
 | .int _ _ => true
 | .str _ => true
 | .nilp => true
 | .nilf => true
 | .noerr => true
 | .err => true
 | .fn _ => true
 | .agg cs => PD.flatL cs
 | .tup cs => PD.flatL cs
 | .sl _ _ => false
 | .clo _ _ => false
 | .ref _ => false
def PD.flatL : List PD → Bool
 | [] => true
 | d :: ds => PD.flat d && PD.flatL ds
end
theorem qKC : ∀ {l : List PD}, PD.flatL l = true → ∀ {i : Nat} {d : PD}, l[i]? = some d → d.flat = true
 | [], _, i, d, h => by simp at h
 | e :: l, h, i, d, hd => by
  simp only [PD.flatL, Bool.and_eq_true] at h
  cases i with
  | zero => simp at hd; subst hd; exact h.1
  | succ i => simp at hd; exact qKC h.2 hd
theorem Rd.flat {M M' : zD} {u : Value} {d : PD} (r : Rd M u d) : d.flat = true → Rd M' u d := by
 induction r with
 | bool b => exact fun _ => .bool b
 | int h1 h2 => exact fun _ => .int h1 h2
 | str h1 h2 => exact fun _ => .str h1 h2
 | @agg arr cs h1 h2 h3 ih =>
  intro h
  simp only [PD.flat] at h
  exact .agg h1 h2 fun i u d hu hd => ih i u d hu hd (qKC h hd)
 | @tup arr cs h1 h2 ih =>
  intro h
  simp only [PD.flat] at h
  exact .tup h1 fun i u d hu hd => ih i u d hu hd (qKC h hd)
 | sl => intro h; simp only [PD.flat] at h; cases h
 | fn f => exact fun _ => .fn f
 | clo => intro h; simp only [PD.flat] at h; cases h
 | ref => intro h; simp only [PD.flat] at h; cases h
 | nilp => exact fun _ => .nilp
 | nilf => exact fun _ => .nilf
 | noerr => exact fun _ => .noerr
 | err => exact fun _ => .err
section
variable {P : Program} {T : Tab} {G : qQ} {Q : Exit → St → Prop} {st st' : St}
theorem Rel.freezeAll {c : Ctx} {μ : Mu} {tmps : Array Value} {w : World} : ∀ (ids : List Nat) {M : zD} {st : St}, Rel c M μ st tmps w → ∃ M', Rel c M' μ (freezeAll st ids) tmps w
 | [], M, _, r => ⟨M, r⟩
 | i :: l, M, st, r => by
  obtain ⟨M1, r1⟩ := r.freeze i
  exact Rel.freezeAll l r1
theorem qGO (ids : List Nat) {o : Oper} {x : Operand} {args : Array Operand} {tys : Array TypeId} {f : FuncId} {asl : List PD} {r : PD} {p : Prop} (ho : o.op = .call { callee := .value x, args := args, argTypes := tys })
  (hf : (freezeAll st ids).arg G x = (p, .p (.fn f))) (hp : p) (hc : AFn P G f asl r) (hq : qFO (args.toList.map fun y => ((freezeAll st ids).arg G y).1)) (hfit : V.fitsL [] (args.toList.map fun y => ((freezeAll st ids).arg G y).2) asl) (hfl : r.flat = true) : zE P G o st (.p r) st := by
 intro c M μ tmps w hg rel0
 obtain ⟨M1, rel⟩ := rel0.freezeAll ids
 have h1 := (qE hg rel hf hp).p_inv
 generalize hu : Act.eval ⟨tmps, []⟩ x = u at h1
 cases h1
 have hsize : args.size = asl.length := by
  have := V.fitsL_len hfit
  simpa using this
 have e : (execOp (Act.eval ⟨tmps, []⟩) o).run P w = .ok (.enter f (args.map (Act.eval ⟨tmps, []⟩))) w := by
  simp [execOp, ho, resolve, Deferred.ofValue, hu, invoke, jL hc.1]
 rw [e]
 have hrd : ∀ (i : Nat) u d, (args.map (Act.eval ⟨tmps, []⟩))[i]? = some u → asl[i]? = some d → Rd M1 u d := by
  intro i u d hu hd
  rw [Array.getElem?_map] at hu
  obtain ⟨y, hy, rfl⟩ := Option.map_eq_some_iff.1 hu
  have hyl : args.toList[i]? = some y := by simpa using hy
  have h2 : (args.toList.map fun y => ((freezeAll st ids).arg G y).2)[i]? = some ((freezeAll st ids).arg G y).2 := by rw [List.getElem?_map, hyl]; rfl
  have hv := qE (x := y) hg rel rfl (uS hq _ (List.mem_map.2 ⟨y, List.mem_of_getElem? hyl, rfl⟩))
  exact xT hv (V.fitsL_get hfit h2 hd)
 refine (hc.2 M1 w _ (hg.go rel) rel.mem (by simp [hsize]) hrd).mono ?_
 rintro e w' ⟨v, M', rfl, hv, hmem, hM, hold, hbel⟩
 exact ⟨v, rfl, M, μ, rel0.same (Grows.of_below hbel), .p (hv.flat hfl)⟩
end
section
variable {P : Program} {T : Tab} {G : qQ}
theorem AX.ren {f : FuncId} {xs : List V} {H : List (Nat × Box)} {r : V} {ps : List Nat} {H' : List (Nat × Box)} (i j : Nat) (h : AX P G f xs H r ps H') (hf : (⟨[r], ps, H', 0⟩ : St).fresh j = true) : AX P G f xs H (r.ren i j) (ps.filter (· != i)) (qPV i j H') := by
 refine ⟨h.1, fun M μ w vs hg rel => (h.2 M μ w vs hg rel).mono ?_⟩
 rintro e w' ⟨v, M', μ', rfl, r'⟩
 have := r'.ren (i := i) hf
 exact ⟨v, M', _, rfl, by simpa only [St.ren, V.renL] using this⟩
end
section
variable {P : Program} {T : Tab} {G : qQ} {Q : Exit → St → Prop} {l : List Oper} {m : Nat} {tss : List (List Nat)} {sms : List Sm}
inductive DRun (P : Program) (G : qQ) (st0 : St) : List Oper → List (List Nat) → St → List Sm → St → Prop
 | nil {tss : List (List Nat)} {st : St} : (st.H.map (·.1)).Nodup → DRun P G st0 [] tss st [] st
 | one {o : Oper} {rest : List Oper} {ts : List Nat} {tss : List (List Nat)} {st st2 : St} {s : Sm} {zs : List Sm} : o.guard = none → (st.H.map (·.1)).Nodup → Facts st0 s → (∀ p ∈ s.H, p ∈ st.H) →
   (∀ c M μ st' tmps w R K, xV G c → Rel c M μ st' tmps w → kL st'.tmps (wY st.tmps ts) → (∀ id bx, (id, bx) ∈ s.H → (id, bx) ∈ st'.H) → (∀ n ∈ s.new, ({ st' with H := zO (s.H.map (·.1)) st'.H } : St).fresh n = true) →
    (∀ u w' M' μ' H2, Rel c M' μ' { st' with H := H2 } tmps w' → RV M' μ' u s.x → (∀ p, p ∈ H2 ↔ p ∈ s.H' ∨ (p ∈ st'.H ∧ p.1 ∉ s.H.map (·.1))) → K (Act.put ⟨tmps, []⟩ o.dst u) w') → o.wp P ⟨tmps, []⟩ w K R) →
   DRun P G st0 rest tss (st.after o.dst s) zs st2 → DRun P G st0 (o :: rest) (ts :: tss) st (s :: zs) st2
theorem DRun.len {st0 : St} {rest : List Oper} {ts : List (List Nat)} {st st2 : St} {zs : List Sm} (h : DRun P G st0 rest ts st zs st2) : zs.length = rest.length := by
 induction h with
 | nil => rfl
 | one _ _ _ _ _ _ ih => simp [ih]
theorem DRun.told (hchk : wD l m tss = true) (hconf : uO l m (sms.map Sm.sum) = true) {st0 : St} {rest : List Oper} {ts : List (List Nat)} {st st2 : St} {zs : List Sm} (h : DRun P G st0 rest ts st zs st2) : ∀ k : Nat,
  rest = (l.take m).drop k → ts = tss.drop k → zs = sms.drop k → k ≤ m → sms.length = m → st.pins = st0.pins → st.base = st0.base → DoneD l m sms st0 (fun j => decide (j < k)) st.tmps st.H →
  (∀ i, k ≤ i → i < m → Told P G l m sms st0 i) ∧ st2.pins = st0.pins ∧ st2.base = st0.base ∧ DoneD l m sms st0 (fun j => decide (j < m)) st2.tmps st2.H ∧ (st2.H.map (·.1)).Nodup := by
 induction h with
 | @nil ts st hnd =>
  intro k hr _ hz hk hxl hp hb D
  have hkm : k = m := by
   have h3 : (List.drop k (List.take m l)).length = 0 := by rw [← hr]; rfl
   have := qCY hchk
   simp at h3
   omega
  subst hkm
  exact ⟨fun i h1 h2 => by omega, hp, hb, D, hnd⟩
 | @one o rest t1 tss1 st st2 s zs hgd hnd F hsub hgo _ ih =>
  intro k hr hts hz hk hxl hp hb D
  have hkm : k < m := by
   have h3 : (List.drop k (List.take m l)).length = rest.length + 1 := by rw [← hr]; rfl
   simp at h3
   omega
  obtain ⟨o', ho', htk, hsep⟩ := vL hchk hkm
  have hoo : o = o' := by
   have h3 : (List.drop k (List.take m l))[0]? = some o := by rw [← hr]; rfl
   rw [List.getElem?_drop, List.getElem?_take, Nat.add_zero, if_pos hkm, ho'] at h3
   cases h3; rfl
  subst hoo
  have hrest : rest = (l.take m).drop (k + 1) := by
   have := congrArg (List.drop 1) hr
   simpa [List.drop_drop, Nat.add_comm] using this
  have ht1 : t1 = o.looksAt l.toArray := by
   have h3 : (List.drop k tss)[0]? = some t1 := by rw [← hts]; rfl
   rw [List.getElem?_drop, Nat.add_zero, htk] at h3
   cases h3; rfl
  have hts1 : tss1 = tss.drop (k + 1) := by
   have := congrArg (List.drop 1) hts
   simpa [List.drop_drop, Nat.add_comm] using this
  have hdk : yP l k = o.dst := by simp [yP, ho']
  have hxk : sms[k]? = some s := by
   have h3 : (List.drop k sms)[0]? = some s := by rw [← hz]; rfl
   rw [List.getElem?_drop, Nat.add_zero] at h3; exact h3
  have hz' : zs = sms.drop (k + 1) := by
   have := congrArg (List.drop 1) hz
   simpa [List.drop_drop, Nat.add_comm] using this
  have D' : DoneD l m sms st0 (fun j => decide (j < k + 1)) (st.after o.dst s).tmps (st.after o.dst s).H := by
   have := D.go hchk hconf (DC.below hchk k) (L' := fun j => decide (j < k + 1)) hkm hdk hxk (by simp) F (fun j => by
    by_cases h1 : j < k
    ·simp [h1, show j < k + 1 by omega]
    ·by_cases h2 : j = k
     ·simp [h2]
     ·simp [h1, h2, show ¬ j < k + 1 by omega]) hsub hnd (H2 := s.H' ++ zO (s.H.map (·.1)) st.H) (fun p => by rw [List.mem_append, kK])
   have e1 : (st.after o.dst s).tmps = qPW st.tmps o.dst s.x := by cases hq : o.dst <;> rfl
   rw [e1]; exact this
  have e2 : (st.after o.dst s).pins = st.pins := by cases hq : o.dst <;> rfl
  have e3 : (st.after o.dst s).base = st.base := by cases hq : o.dst <;> rfl
  obtain ⟨h1, h2, h3⟩ := ih (k + 1) hrest hts1 hz' hkm hxl (e2.trans hp) (e3.trans hb) D'
  refine ⟨fun i hi1 hi2 => ?_, h2, h3⟩
  rcases Nat.eq_or_lt_of_le hi1 with e | e
  ·subst e
   subst ht1
   exact ⟨o, s, st.tmps, st.H, ho', hxk, D, F, hsub, qLI ho' hgd hgo⟩
  ·exact h1 i e hi2
theorem AW.runDraw1 (hmix : P.follows .mixedOrders = true) (m : Nat) (tss : List (List Nat)) {id : Nat} {st st1 : St} {sms : List Sm} (hchk : wD l m tss = true)
  (h1 : DRun P G st (l.take m) tss st sms st1) (hconf : uO l m (sms.map Sm.sum) = true) (hlate : zH P G l.toArray Q (l.drop m) st1) :
  AW P G (.region id l.toArray true) Q st := by
 intro c M μ tmps w hg r
 refine wp_region_any hmix ?_
 have hml := qCY hchk
 have hxl : sms.length = m := by
  rw [h1.len]; simp; omega
 obtain ⟨hgo, hp2, _, D2, hnd2⟩ := h1.told hchk hconf 0 (by simp) (by simp) (by simp) (Nat.zero_le _) hxl rfl rfl (DoneD.put0 st)
 have hsize : l.toArray.size = l.length := by simp
 refine qOR hchk hconf st (fun i hi => hgo i (Nat.zero_le _) hi) st1 hp2 D2 hnd2 hlate hg _ _ _ M μ st.tmps st.H tmps _ rfl ?_ (by simp) (fun j _ hj => by simp [Array.getD]) (fun j o _ h => by simp [Array.getD] at h) ?_ (r.same ⟨rfl, rfl, rfl, Nat.le_refl _, fun _ _ => rfl⟩)
 ·rw [hsize]
  exact Nat.le_trans (List.length_filter_le _ _) (by simp)
 ·have : (fun j => (Array.replicate l.toArray.size false).getD j false) = fun j => decide (j < 0) := by
   funext j; simp [Array.getD]
  rw [this]; exact DoneD.put0 st
def wM (P : Program) (G : qQ) (st0 : St) (l : List Oper) (tss : List (List Nat)) (st : St) (acc : qHM) (K : qHM → St → Prop) : Prop := ∃ sms st1, DRun P G st0 l tss st sms st1 ∧ K (acc ++ sms.map Sm.sum) st1
variable {K : qHM → St → Prop} {st st' st0 : St} {rest : List Oper} {ts : List Nat} {orc orc' : List PD} {acc : qHM} {o : Oper} {sm : zPT} {v : Know → Prop}
theorem wM.nil (hn : ndB st.H = true) (k : K acc st) : wM P G st0 [] tss st acc K := ⟨_, _, .nil (yC hn), by simpa using k⟩
theorem wM.one (hT : TOK P T) (h : ∀ C, qOS C T G st0 ts o st orc = some (v C, st', sm, orc')) (hv : v (kn P G)) (hgd : o.guard = none) (hn : ndB st.H = true) (k : wM P G st0 rest tss st' (acc ++ [sm]) K) :
  wM P G st0 (o :: rest) (ts :: tss) st acc K := by
 have h1 := h (kn P G)
 unfold qOS at h1
 split at h1
 ·rename_i v1 s orc1 h2
  simp only [Option.some.injEq, Prod.mk.injEq] at h1
  obtain ⟨h3, rfl, rfl, rfl⟩ := h1
  obtain ⟨sms, st1, e, hk⟩ := k
  have S := qDS hT (yC hn) h2 (h3 ▸ hv)
  exact ⟨s :: sms, st1, .one hgd (yC hn) ⟨S.q, S.good, S.ps, S.new⟩ (fun p hp => qFU st _ p (S.H p hp)) S.goes e, by simpa using hk⟩
 ·cases h1
theorem r1 (hT : TOK P T) (k : wM P G st0 rest tss st' (acc ++ [sm]) K) (h : ∀ C, qOS C T G st0 ts o st orc = some (v C, st', sm, orc') := by intro C; conv => lhs; simp) (hv : v (kn P G) := by first | with_reducible exact True.intro | omega | simp | (simp +contextual; omega)) (hgd : o.guard = none := by rfl) (hn : ndB st.H = true := by kernel_rfl) :
  wM P G st0 (o :: rest) (ts :: tss) st acc K := wM.one hT h hv hgd hn k
theorem wM.call {x : Operand} {args : Array Operand} {tys : Array TypeId} {f : FuncId} {xs : List V} {H : List (Nat × Box)} {r : V} {ps : List Nat} {H' : List (Nat × Box)} (new : List Nat) (hc : AX P G f xs H r ps H') (ho : o.op = .call { callee := .value x, args := args, argTypes := tys }) (hgd : o.guard = none)
  (hcx : CX G ⟨wY st.tmps ts, H.map (·.1), H, st.base⟩ x args.toList f xs H r ps H') (hrest : (St.rest ⟨wY st.tmps ts, H.map (·.1), H, st.base⟩ H ps).H = []) (hpins : ∀ i ∈ ps, i ∈ (St.rest ⟨wY st.tmps ts, H.map (·.1), H, st.base⟩ H ps).pins)
  (hsub : ∀ p ∈ H, p ∈ st.H) (hnew : ∀ n ∈ new, st0.fresh n = true) (hky : ∀ i, qL i H' = true → i ∈ H.map (·.1) ∨ i ∈ new) (hgood : ∀ i ∈ V.ids r ++ vG H', i ∈ ps ∨ i ∈ new) (hn : ndB st.H = true) (hst : st.after o.dst ⟨r, H, H', ps, new, false⟩ = st')
  (k : wM P G st0 rest tss st' (acc ++ [(Sm.mk r H H' ps new false).sum]) K) : wM P G st0 (o :: rest) (ts :: tss) st acc K := by
 subst hst
 obtain ⟨sms, st1, e, hk⟩ := k
 have hsn : (H.map (·.1)).Nodup := hcx.2.2.2.2.1
 have y := yI ho hc hcx
 refine ⟨⟨r, H, H', ps, new, false⟩ :: sms, st1, .one hgd (yC hn) ⟨fun h => absurd h (by simp), hgood, hky, hnew⟩ hsub (fun c M μ st' tmps w R K hG rel hle hbox hnw k => ?_) e, by simpa using hk⟩
 exact qCU (s := ⟨r, H, H', ps, new, false⟩) (small := ⟨wY st.tmps ts, H.map (·.1), H, st.base⟩) (s' := ({ St.rest (⟨wY st.tmps ts, H.map (·.1), H, st.base⟩ : St) H ps with H := H' ++ (St.rest (⟨wY st.tmps ts, H.map (·.1), H, st.base⟩ : St) H ps).H } : St)) rfl hsn (by show H' = H' ++ _; rw [hrest, List.append_nil]) (fun i hi => hpins i hi) hky hgood y c M μ st' tmps w R K hG rel hle hbox hnw k
theorem AW.drawR (hmix : P.follows .mixedOrders = true) (m : Nat) (tss : List (List Nat)) (orc2 : List PD) {id : Nat} {l : List Oper} (hchk : wD l m tss = true)
  (h : wM P G st (l.take m) tss st [] fun qTT st1 => uO l m qTT = true ∧ qC P G l.toArray Q (l.drop m) st1 orc2) : AW P G (.region id l.toArray true) Q st := by
 obtain ⟨sms, st1, e, hc, hl⟩ := h
 exact AW.runDraw1 hmix m tss hchk e (by simpa using hc) hl
theorem AW.seqDrawR (hmix : P.follows .mixedOrders = true) (m : Nat) (tss : List (List Nat)) (orc2 : List PD) {id : Nat} {l : List Oper} {b : Code} (hchk : wD l m tss = true)
  (h : wM P G st (l.take m) tss st [] fun qTT st1 => uO l m qTT = true ∧ qC P G l.toArray (andThen (AW P G b Q) Q) (l.drop m) st1 orc2) : AW P G (.seq (.region id l.toArray true) b) Q st :=
 AW.seq (AW.drawR hmix m tss orc2 hchk h)
end
set_option linter.unusedSimpArgs false
set_option linter.unusedVariables false
section
variable {P : Program} {T : Tab} {G : qQ} {l : List Oper} {tss : List (List Nat)} {K : qHM → St → Prop} {st st' st0 : St} {rest : List Oper} {ts : List Nat} {acc : qHM} {o : Oper}
theorem wM.callFlat (Hs : List (Nat × Box)) {x : Operand} {args : Array Operand} {tys : Array TypeId} {f : FuncId} {asl : List PD} {r : PD} {p : Prop} (hc : AFn P G f asl r) (ho : o.op = .call { callee := .value x, args := args, argTypes := tys }) (hgd : o.guard = none)
  (hf : (freezeAll ⟨wY st.tmps ts, Hs.map (·.1), Hs, st.base⟩ (Hs.map (·.1))).arg G x = (p, .p (.fn f))) (hp : p) (hq : qFO (args.toList.map fun y => ((freezeAll ⟨wY st.tmps ts, Hs.map (·.1), Hs, st.base⟩ (Hs.map (·.1))).arg G y).1))
  (hfit : V.fitsL [] (args.toList.map fun y => ((freezeAll ⟨wY st.tmps ts, Hs.map (·.1), Hs, st.base⟩ (Hs.map (·.1))).arg G y).2) asl) (hfl : r.flat = true) (hsub : ∀ p ∈ Hs, p ∈ st.H) (hids : ∀ i ∈ vG Hs, i ∈ Hs.map (·.1)) (hn : ndB st.H = true) (hns : ndB Hs = true)
  (hst : st.after o.dst ⟨.p r, Hs, Hs, Hs.map (·.1), [], true⟩ = st') (k : wM P G st0 rest tss st' (acc ++ [(Sm.mk (.p r) Hs Hs (Hs.map (·.1)) [] true).sum]) K) : wM P G st0 (o :: rest) (ts :: tss) st acc K := by
 subst hst
 obtain ⟨sms, st1, e, hk⟩ := k
 have y := qGO (P := P) (st := ⟨wY st.tmps ts, Hs.map (·.1), Hs, st.base⟩) (Hs.map (·.1)) ho hf hp hc hq hfit hfl
 have hgood : ∀ i ∈ V.ids (V.p r) ++ vG Hs, i ∈ Hs.map (·.1) ∨ i ∈ ([] : List Nat) := fun i hi => .inl (hids i (by simpa [V.ids] using hi))
 have hky : ∀ i, qL i Hs = true → i ∈ Hs.map (·.1) ∨ i ∈ ([] : List Nat) := fun i hi => by
  obtain ⟨b, hb⟩ := qF.1 hi
  exact .inl (List.mem_map.2 ⟨_, hb, rfl⟩)
 refine ⟨⟨.p r, Hs, Hs, Hs.map (·.1), [], true⟩ :: sms, st1, .one hgd (yC hn) ⟨fun _ => rfl, hgood, hky, by simp⟩ hsub (fun c M μ st' tmps w R K hG rel hle hbox hnw k => ?_) e, by simpa using hk⟩
 exact qCU (s := ⟨.p r, Hs, Hs, Hs.map (·.1), [], true⟩) (small := ⟨wY st.tmps ts, Hs.map (·.1), Hs, st.base⟩) (s' := ⟨wY st.tmps ts, Hs.map (·.1), Hs, st.base⟩) rfl (yC hns) rfl (fun i hi => hi) hky hgood y c M μ st' tmps w R K hG rel hle hbox hnw k
end
end Go.Proofs.YtdojfdaglbphlaaGreatDoor.Sy
namespace Go.Proofs.YtdojfdaglbphlaaGreatDoor
open Sy Go
set_option maxRecDepth 100000
set_option maxHeartbeats 4000000
set_option linter.unusedSimpArgs false
set_option linter.unusedVariables false
variable {G : qQ}
theorem kH (a b : Val) (top deep k : Int) : AFn Tryz.prog G 77 [.agg (prC a b top deep), .int .i64 k] (.bool (decide (a.kind = k) && decide (b.kind = k))) := by
 refine AFn.introU tok Tryz.func77 (by kernel_rfl) rfl rfl ?_
 simp only [Tryz.f77, qJ, List.map_cons, List.map_nil]
 refine rgn [] [[], [1, 2]] ?_
 iterate 2 refine op1 tok ?_
 refine qA ?_
 refine rgn [] [[], [], [], [], [1, 2, 9], [], [], [], [1, 10, 13], [], [], [16], [4]] ?_
 iterate 6 refine op1 tok ?_
 iterate 5 refine op2 tok ?_
 iterate 2 refine op1 tok ?_
 refine qA ?_
 exact AW.ret qI
theorem zJB (code m : Int) : AFn Tryz.prog G 142 [.int .i64 code, .int .u64 m] ((yR code m).enc) := by
 refine AFn.introU tok Tryz.func142 (by kernel_rfl) rfl rfl ?_
 simp only [Tryz.f142, qJ, List.map_cons, List.map_nil]
 have e : yR code m = .mk 8 m dc0 [] [] [] code := rfl
 rw [e]
 refine rgn [] [[]] ?_
 refine op1 tok ?_
 refine qA ?_
 refine rgn [] [[], [], [4, 7], [4]] ?_
 iterate 4 refine op1 tok ?_
 refine qA ?_
 exact AW.ret (qI (k := by simp [dc0]))
theorem qET (a b : Val) (top deep code : Int) : AFn Tryz.prog G 82 [.agg (prC a b top deep), .int .i64 code] ((yR code top).enc) := by
 refine AFn.introU tok Tryz.func82 (by kernel_rfl) rfl rfl ?_
 simp only [Tryz.f82, qJ, List.map_cons, List.map_nil]
 have hf := zJB (G := G) code top
 simp only [Val.enc_def] at hf
 refine rgn [] [[], [1, 2, 4]] ?_
 iterate 2 refine op1 tok ?_
 refine qA ?_
 refine rgn [.nilp, (yR code top).enc] [[], [], [], [4, 8], [4]] ?_
 iterate 5 refine op1 tok ?_ (hv := by first | with_reducible exact True.intro | (exact hf; done) | omega | simp | (simp +contextual; omega))
 refine qA ?_
 exact AW.ret qI
theorem qWP (x : Bool) (m : Int) : AFn Tryz.prog G 42 [.bool x, .int .u64 m] ((qAO x m).enc) := by
 refine AFn.introU tok Tryz.func42 (by kernel_rfl) rfl rfl ?_
 simp only [Tryz.f42, qJ, List.map_cons, List.map_nil]
 have e : qAO x m = .mk (if x = true then 3 else 2) m dc0 [] [] [] 0 := rfl
 rw [e]
 refine rgn [] [[]] ?_
 refine op1 tok ?_
 refine qA ?_
 refine rgn [] [[], [], [], [0, 4, 5]] ?_
 iterate 4 refine op1 tok ?_
 refine qA ?_
 refine AW.seq ?_
 refine rgn [] [[4, 5, 8]] ?_
 refine op1 tok ?_
 refine qA ?_
 refine cnd ?_ ?_
 ·intro h8
  try simp at h8
  rw [if_pos h8]
  refine rgz [] [[], [4, 5]] ?_
  iterate 2 refine op1 tok ?_
  refine qA ?_
  refine rgn [] [[], [4]] ?_
  iterate 2 refine op1 tok ?_
  refine qA ?_
  exact AW.ret (qI (k := by simp [dc0]))
 ·intro h8
  try simp at h8
  rw [if_neg (by rw [h8]; simp)]
  refine AW.skip ?_
  refine rgn [] [[], [4]] ?_
  iterate 2 refine op1 tok ?_
  refine qA ?_
  exact AW.ret (qI (k := by simp [dc0]))
theorem zGX (v w : Val) (hv : qT v = true) (hw : qT w = true) : AFn Tryz.prog G 87 [w.enc, .ref [.int .i64 v.kind, .int .u64 v.mask, .bool v.num.neg, .str v.num.digits, .int .i64 v.num.scale, .str v.text, .sl 1 (v.keys.map PD.str), .sl 9 (v.kids.map Val.enc), .int .i64 v.code]] (.bool (decide (jJ v w = 0))) := by
 refine AFn.introU tok Tryz.func87 (by kernel_rfl) rfl rfl ?_
 simp only [Tryz.f87, qJ, List.map_cons, List.map_nil]
 have hc := zES (G := G) v w hv hw
 simp only [Val.enc_def] at hc
 generalize jJ v w = n at *
 refine rgn [] [[], [1, 2]] ?_
 iterate 2 refine op1 tok ?_
 refine qA ?_
 refine rgn [.nilp, .int .i64 n] [[], [], [6], [], [3]] ?_
 iterate 5 refine op1 tok ?_ (hv := by first | with_reducible exact True.intro | (first | exact hc | (simp; done); done) | omega | simp | (simp +contextual; omega))
 refine qA ?_
 exact AW.ret qI
theorem zGY (a b v : Val) (top deep : Int) (hv : qT v = true) (hb : ∀ w ∈ b.kids, qT w = true) : AFn Tryz.prog G 85 [v.enc, .ref (prC a b top deep)] (.bool (b.kids.any fun w => decide (jJ v w = 0))) := by
 refine AFn.introU tok Tryz.func85 (by kernel_rfl) rfl rfl ?_
 simp only [Tryz.f85, qJ, List.map_cons, List.map_nil]
 have hc := qQD (G := G) b.kids 87 [.int .i64 v.kind, .int .u64 v.mask, .bool v.num.neg, .str v.num.digits, .int .i64 v.num.scale, .str v.text, .sl 1 (v.keys.map PD.str), .sl 9 (v.kids.map Val.enc), .int .i64 v.code] (fun w => decide (jJ v w = 0)) (fun w hw => zGX v w hv (hb w hw))
 generalize (b.kids.any fun w => decide (jJ v w = 0)) = r at *
 refine rgn [] [[], [1, 2]] ?_
 iterate 2 refine op1 tok ?_
 refine qA ?_
 refine AW.freezeV 2 (by conv => lhs; simp) ?_
 refine rgn [.nilp, .bool r] [[], [], [], [6, 7], [], [3]] ?_
 iterate 6 refine op1 tok ?_ (hv := by first | with_reducible exact True.intro | (first | exact hc | (simp; done) | (simp at hc ⊢; exact hc); done) | omega | simp | (simp +contextual; omega))
 refine qA ?_
 exact AW.ret qI
theorem zGW (a b : Val) (top deep : Int) (ha : qT a = true) (hb : qT b = true) (hka : a.kind = 6) (hkb : b.kind = 6) : AFn Tryz.prog G 33 [.agg (prC a b top deep)] ((qFB a b deep).enc) := by
 refine AFn.introU tok Tryz.func33 (by kernel_rfl) rfl rfl ?_
 simp only [Tryz.f33, qJ, List.map_cons, List.map_nil]
 have hk := kH (G := G) a b top deep 6
 simp only [hka, hkb, decide_true, Bool.and_true] at hk
 have hsm := kG ha
 have hcl := qSX (G := G) a ha
 have hd := zPF (G := G) 85 (prC a b top deep) (fun v => b.kids.any fun w => decide (jJ v w = 0)) a.kids (fun v hv => zGY a b v top deep (zU ha hv) (fun w hw => zU hb hw)) (by omega)
 have e : qFB a b deep = .mk a.kind deep a.num a.text a.keys (a.kids.filter fun v => !(b.kids.any fun w => decide (jJ v w = 0))) a.code := rfl
 rw [e]
 generalize (a.kids.filter fun v => !(b.kids.any fun w => decide (jJ v w = 0))) = fs at *
 refine rgn [] [[], [1, 2]] ?_
 iterate 2 refine op1 tok ?_
 refine qA ?_
 refine AW.seq ?_
 refine rgn [.nilp, .bool true] [[], [], [1, 2, 6]] ?_
 iterate 3 refine op1 tok ?_ (hv := by first | with_reducible exact True.intro | ((simp [hka, hkb] at hk ⊢; exact hk); done) | omega | simp | (simp +contextual; omega))
 refine qA ?_
 refine cnd ?_ ?_
 ·intro h6
  try simp at h6
 ·intro h6
  try simp at h6
  refine AW.skip ?_
  refine rgn [] [[], []] ?_
  iterate 2 refine op1 tok ?_
  refine qV ?_
  refine qC.stepK [1, 2, 11] (yI rfl hcl (by simp)) (by conv => lhs; simp) rfl ?_
  refine qC.run [[], [1, 2, 3]] ?_
  iterate 2 refine op1 tok ?_
  refine qA ?_
  refine rgn [] [[], [], [], [1, 2, 3]] ?_
  iterate 4 refine op1 tok ?_
  refine qA ?_
  refine AW.freezeV 1 (by conv => lhs; simp) ?_
  refine AW.renE 912 930 (by simp) (by conv => lhs; simp) ?_
  refine rgn [] [[], [], []] ?_
  iterate 3 refine op1 tok ?_
  refine qV ?_
  refine qC.stepK [2, 3, 18] (yI rfl hd (by simp)) (by conv => lhs; simp) rfl ?_
  refine qC.run [[], [2, 3]] ?_
  iterate 2 refine op1 tok ?_
  refine qA ?_
  refine AW.freezeE 930 (by conv => lhs; simp) ?_
  refine AW.freezeE 909 (by conv => lhs; simp) ?_
  refine rgn [] [[], [2]] ?_
  iterate 2 refine op1 tok ?_
  refine qA ?_
  exact AW.ret qI
theorem qRO (a b : Val) (top deep : Int) (ha : qT a = true) (hb : qT b = true) (hla : a.keys.length = a.kids.length) (hlb : b.keys.length = b.kids.length) : AFn Tryz.prog G 80 [.agg (prC a b top deep)] ((jR a b top).enc) := by
 refine AFn.introU tok Tryz.func80 (by kernel_rfl) rfl rfl ?_
 simp only [Tryz.f80, qJ, List.map_cons, List.map_nil]
 have hsa := kG ha
 have hsb := kG hb
 have hcl := qSX (G := G) a ha
 have hcb := qZT (G := G) b hb
 simp only [Val.enc_def] at hcb
 have e : jR a b top = .mk a.kind top a.num a.text (yF b b.keys.length a.keys a.kids).1 (yF b b.keys.length a.keys a.kids).2 a.code := rfl
 rw [e]
 refine rgn [] [[], [1, 2]] ?_
 iterate 2 refine op1 tok ?_
 refine qA ?_
 refine rgn [] [[], []] ?_
 iterate 2 refine op1 tok ?_
 refine qV ?_
 refine qC.stepK [1, 2, 10] (yI rfl hcl (by simp)) (by conv => lhs; simp) rfl ?_
 refine qC.run [[], [1, 2, 3]] ?_
 iterate 2 refine op1 tok ?_
 refine qA ?_
 refine AW.renE 3 800 (by simp) (by conv => lhs; simp) ?_
 refine AW.renE 909 3 (by simp) (by conv => lhs; simp) ?_
 refine AW.renE 912 8 (by simp) (by conv => lhs; simp) ?_
 refine rgn [] [[], [], [], [1, 2, 3]] ?_
 iterate 4 refine op1 tok ?_
 refine qA ?_
 refine rgn [.nilp, b.enc] [[], [], [], [], [2, 3, 4]] ?_
 iterate 5 refine op1 tok ?_ (hv := by first | with_reducible exact True.intro | (exact hcb; done) | omega | simp | (simp +contextual; omega))
 refine qA ?_
 refine AW.seq ?_
 refine rgn [] [[], [], [], [2, 3, 4, 18, 19, 20]] ?_
 iterate 4 refine op1 tok ?_
 refine qA ?_
 refine AW.block ?_
 refine AW.loop (α := Nat) (fun k => k ≤ b.keys.length) (fun k => ⟨qW 58 [(2, .ptr 2 0), (3, .ptr 800 0), (4, .ptr 4 0), (18, .p (.sl 1 (b.keys.map PD.str))), (19, .p (.int .i64 b.keys.length)), (20, .p (.int .i64 k))], [], [(2, .vars 31 [.p (.int .i64 0), .p (.int .u64 0), .p (.bool false), .p (.str []), .p (.int .i64 0), .p (.str []), .nilsl, .nilsl, .p (.int .i64 0)]), (800, .vars 31 [.p (.int .i64 a.kind), .p (.int .u64 top), .p (.bool a.num.neg), .p (.str a.num.digits), .p (.int .i64 a.num.scale), .p (.str a.text), .ms 3, .ms 8, .p (.int .i64 a.code)]), (4, .vars 31 b.cells), (3, .row 9 1 ((yF b k a.keys a.kids).1.map PD.str)), (8, .row 31 9 ((yF b k a.keys a.kids).2.map Val.enc))], 0⟩) (fun k => b.keys.length - k) (0) (by omega) ⟨qB (by simp), rfl, by simp [yF], by simp⟩ ?_
 rintro k hk
 refine rgn [] [[]] ?_
 refine op1 tok ?_
 refine qA ?_
 refine AW.seq ?_
 refine cnd ?_ ?_
 ·intro h21
  try simp at h21
  obtain ⟨key, hkey⟩ : ∃ x, b.keys[k]? = some x := ⟨b.keys[k], by simp [h21]⟩
  obtain ⟨v, hv⟩ : ∃ x, b.kids[k]? = some x := ⟨b.kids[k]'(by omega), List.getElem?_eq_getElem _⟩
  have hlk := qNW b k hla
  have hst : yF b (k + 1) a.keys a.kids = jY (yF b k a.keys a.kids).1 (yF b k a.keys a.kids).2 key v := by
   simp only [yF, List.getD_eq_getElem?_getD, hkey, hv, Option.getD_some]
  generalize yF b k a.keys a.kids = M at *
  obtain ⟨ks, vs⟩ := M
  simp only at hlk hst
  have hput : jY ks vs key v = if key ∈ ks then (ks, vs.set (ks.idxOf key) v) else (ks ++ [key], vs ++ [v]) := rfl
  have hidx : zHO ks key = if key ∈ ks then (ks.idxOf key : Int) else -1 := rfl
  have hix := zOX (G := G) ks key
  refine AW.skip ?_
  refine AW.seq ?_
  refine AW.block ?_
  refine rgn [.str key] [[], [], [], [], [2, 3, 4, 5, 6, 18, 19, 20]] ?_
  iterate 5 refine op1 tok ?_ (hv := by first | with_reducible exact True.intro | (first | (simp [hkey]; done) | (simp [hkey]; omega); done) | omega | simp | (simp +contextual; omega))
  refine qA ?_
  refine AW.seq ?_
  refine rgn [] [[], [], []] ?_
  iterate 3 refine op1 tok ?_
  refine qV ?_
  refine qC.stepK [2, 3, 4, 5, 6, 18, 19, 20, 28] (yI rfl hix (by simp)) (by conv => lhs; simp) rfl ?_
  refine qC.run [[2, 3, 4, 5, 6, 7, 18, 19, 20]] ?_
  refine op1 tok ?_
  refine qA ?_
  refine rgn [] [[], [2, 3, 4, 5, 6, 7, 18, 19, 20, 30]] ?_
  iterate 2 refine op1 tok ?_
  refine qA ?_
  refine cnd ?_ ?_
  ·intro h30
   try simp at h30
   have hm : key ∈ ks := by false_or_by_contra; rename_i hm; rw [if_neg hm] at hidx; omega
   rw [if_pos hm] at hidx hput
   have hi := List.idxOf_lt_length_iff.2 hm
   obtain ⟨o, ho⟩ : ∃ o, vs[ks.idxOf key]? = some o := ⟨vs[ks.idxOf key]'(by omega), by simp⟩
   have hio : ks.idxOf key < vs.length := by omega
   rw [hidx]
   rw [hput] at hst
   refine AW.seqDrawS tok mixed 8 [[3], [31], [7], [4], [34], [5], [35, 36], [37]] [v.enc] [o.enc, v.enc] (by kernel_rfl) ?_
   iterate 8 refine d1 ?_ (hv := by first | with_reducible exact True.intro | (first | omega | (simp [hv]; done) | (simp [hv]; omega); done) | omega | simp | (simp +contextual; omega))
   refine DGo.nil (by kernel_rfl) ⟨by kernel_rfl, ?_⟩
   refine qC.run [[], [2, 3, 4, 18, 19, 20]] ?_
   iterate 2 refine op1 tok ?_ (hv := by first | with_reducible exact True.intro | (first | omega | (simp [ho]; done) | (simp [ho, Val.cells, V.fitsL]; done); done) | omega | simp | (simp +contextual; omega))
   refine qA ?_
   refine AW.exit ?_
   simp
   refine rgz [] [[], [2, 3, 4, 18, 19, 20]] ?_
   iterate 2 refine op1 tok ?_
   refine qA ?_
   exact ⟨k + 1, by omega, by omega, qB (by simp [hst]), rfl, by simp [hst], by simp [hst]⟩
  ·intro h30
   try simp at h30
   have hm : key ∉ ks := by intro hm; rw [if_pos hm] at hidx; omega
   rw [if_neg hm] at hput
   rw [hput] at hst
   refine AW.skip ?_
   refine AW.drawS tok mixed 16 [[3], [40], [6], [42], [41, 43], [3], [45], [4], [47], [5], [48, 49], [50], [51], [46, 52], [3], [54, 44]] [.str key, v.enc, v.enc] [] (by kernel_rfl) ?_
   iterate 16 refine d1 ?_ (h := by intro C; conv => lhs; simp [Value.oneCell']) (hv := by first | with_reducible exact True.intro | (first | omega | (simp [hv]; done) | (simp [hv]; omega) | (simp; omega); done) | omega | simp | (simp +contextual; omega))
   refine DGo.nil (by kernel_rfl) ⟨by kernel_rfl, ?_⟩
   refine qC.run [[], [2, 3, 4, 18, 19, 20]] ?_
   iterate 2 refine op1 tok ?_ (h := by intro C; conv => lhs; simp [Value.oneCell'])
   refine qV ?_
   refine qC.take 44 3 (by conv => lhs; simp) ?_
   refine qC.take 53 8 (by conv => lhs; simp) ?_
   refine qC.nil ?_
   refine rgz [] [[], [2, 3, 4, 18, 19, 20]] ?_
   iterate 2 refine op1 tok ?_
   refine qA ?_
   exact ⟨k + 1, by omega, by omega, qB (by simp [hst]), rfl, by simp [hst], by simp [hst]⟩
 ·intro h21
  try simp at h21
  obtain rfl : k = b.keys.length := by omega
  refine AW.exit ?_
  simp
  refine AW.freezeE 3 (by conv => lhs; simp) ?_
  refine AW.freezeE 8 (by conv => lhs; simp) ?_
  refine rgn [] [[], [2]] ?_
  iterate 2 refine op1 tok ?_
  refine qA ?_
  exact AW.ret qI
theorem zHR (code m : Int) : AFn Tryz.prog G 47 [.int .i64 code, .int .u64 m] ((yR code m).enc) := by
 refine AFn.introU tok Tryz.func47 (by kernel_rfl) rfl rfl ?_
 simp only [Tryz.f47, qJ, List.map_cons, List.map_nil]
 have e : yR code m = .mk 8 m dc0 [] [] [] code := rfl
 rw [e]
 refine rgn [] [[]] ?_
 refine op1 tok ?_
 refine qA ?_
 refine rgn [] [[], [], [4, 7], [4]] ?_
 iterate 4 refine op1 tok ?_
 refine qA ?_
 exact AW.ret (qI (k := by simp [dc0]))
def qCS (l : List Val) (m : Int) : Val := if 200 < l.length then yR 3 m else .mk 6 m dc0 [] [] l 0
theorem zHD (l : List Val) (m : Int) : AFn Tryz.prog G 62 [.sl 9 (l.map Val.enc), .int .u64 m] ((qCS l m).enc) := by
 refine AFn.introU tok Tryz.func62 (by kernel_rfl) rfl rfl ?_
 simp only [Tryz.f62, qJ, List.map_cons, List.map_nil]
 have hf := zHR (G := G) 3 m
 simp only [Val.enc_def] at hf
 unfold qCS
 refine rgn [] [[]] ?_
 refine op1 tok ?_
 refine qA ?_
 refine AW.seq ?_
 refine rgn [] [[], [], [0, 1, 4, 7]] ?_
 iterate 3 refine op1 tok ?_
 refine qA ?_
 refine cnd ?_ ?_
 ·intro h7
  try simp at h7
  rw [if_pos (by omega)]
  refine rgn [.nilp, (yR 3 m).enc] [[], [], [4]] ?_
  iterate 3 refine op1 tok ?_ (hv := by first | with_reducible exact True.intro | (exact hf; done) | omega | simp | (simp +contextual; omega))
  refine qA ?_
  exact AW.ret qI
 ·intro h7
  try simp at h7
  rw [if_neg (by omega)]
  refine AW.skip ?_
  refine rgn [] [[], [], [4, 12], [4]] ?_
  iterate 4 refine op1 tok ?_
  refine qA ?_
  exact AW.ret (qI (k := by simp [dc0]))
theorem zBQ (l : List Val) (hlm : l.length ≤ 1000000) (hm : ∀ x ∈ l, qT x = true) : AFn Tryz.prog G 126 [.sl 9 (l.map Val.enc), .bool false] (.sl 9 ((wR l).map Val.enc)) := by
 refine AFn.introU tok Tryz.func126 (by kernel_rfl) rfl rfl ?_
 simp only [Tryz.f126, qJ, List.map_cons, List.map_nil]
 refine rgn [] [[0, 1]] ?_
 refine op1 tok ?_
 refine qA ?_
 refine rgn [] [[], [0, 1, 5]] ?_
 iterate 2 refine op1 tok ?_
 refine qA ?_
 refine AW.seq ?_
 refine rgn [] [[]] ?_
 refine op1 tok ?_
 refine qA ?_
 refine AW.block ?_
 refine AW.loop (α := Nat) (fun k => k ≤ l.length) (fun k => ⟨qW 72 [(0, .p (.sl 9 (l.map Val.enc))), (1, .p (.bool false)), (5, .ms 9), (6, .p (.int .i64 k))], [], [(9, .row 31 9 ((wR (l.take k)).map Val.enc))], 0⟩) (fun k => l.length - k) (0) (by omega) ⟨qB (by simp), rfl, by simp [wR, qEE], by simp⟩ ?_
 rintro k hk
 have hil : (wR (l.take k)).length = k := by unfold wR; rw [kD, List.length_take, Nat.min_eq_left hk]
 have hom : ∀ x ∈ wR (l.take k), qT x = true := fun x hx => hm x (List.mem_of_mem_take (qCH.1 hx))
 refine AW.seq ?_
 refine rgn [] [[], [], [], [0, 1, 5, 6, 13]] ?_
 iterate 4 refine op1 tok ?_
 refine qA ?_
 refine cnd ?_ ?_
 ·intro h13
  try simp at h13
  obtain ⟨s, hs⟩ : ∃ s, l[k]? = some s := ⟨l[k], by simp [h13]⟩
  have hnx : wR (l.take (k + 1)) = qHG leV (wR (l.take k)) s := zBB hs
  have hsm := hm s (List.mem_of_getElem? hs)
  generalize wR (l.take k) = o at *
  have hpl := zON (le := leV) s o
  have hget : ∀ j, j < o.length → o[j]? = some (o.getD j wW) := fun j hj => by simp [List.getD_eq_getElem?_getD, hj]
  have hcmp : ∀ j, j < o.length → AFn Tryz.prog G 22 [(o.getD j wW).enc, s.enc] (.int .i64 (jJ (o.getD j wW) s)) := fun j hj => qJR (G := G) _ _ (hom _ (List.mem_of_getElem? (hget j hj))) hsm
  simp only [Val.enc_def, List.getD_eq_getElem?_getD] at hcmp
  refine AW.skip ?_
  refine AW.seq ?_
  refine AW.block ?_
  refine rgn [] [[]] ?_
  refine op1 tok ?_
  refine qA ?_
  refine AW.seq ?_
  refine AW.block ?_
  refine AW.freezeE 9 (by conv => lhs; simp) ?_
  refine AW.loop (α := Nat) (fun j => j ≤ qAC leV s o) (fun j => ⟨qW 72 [(0, .p (.sl 9 (l.map Val.enc))), (1, .p (.bool false)), (5, .p (.sl 9 (o.map Val.enc))), (6, .p (.int .i64 k)), (7, .p (.int .i64 j))], [], [], 0⟩) (fun j => qAC leV s o - j) (0) (by omega) ⟨qB (by simp), rfl, by simp, by simp⟩ ?_
  rintro j hj
  refine AW.seq ?_
  refine AW.seqDrawS tok mixed 16 [[7], [5], [17], [16, 18], [19], [5, 20], [7, 20], [21, 22, 20], [23, 20], [0, 20], [6, 20], [25, 26, 20], [27, 20], [24, 28, 20], [29, 20], [20, 30]] [(o.getD j wW).enc, s.enc, .nilp, .int .i64 (jJ (o.getD j wW) s)] [] (by kernel_rfl) ?_
  iterate 5 refine d1 ?_ (hv := by first | with_reducible exact True.intro | (first | (simp [hs]; done) | (exact fun h => by simp [hget _ h]) | (exact fun h => ⟨h, by first | (simp [h]; done) | simpa [h] using hcmp _ h⟩) | (exact fun h => ⟨h, hcmp _ h⟩) | (simp; intros; omega); done) | omega | simp | (simp +contextual; omega))
  iterate 10 refine d2 20 rfl rfl ?_ (hv := by first | with_reducible exact True.intro | (first | (simp [hs]; done) | (exact fun h => by simp [hget _ h]) | (exact fun h => ⟨h, by first | (simp [h]; done) | simpa [h] using hcmp _ h⟩) | (exact fun h => ⟨h, hcmp _ h⟩) | (simp; intros; omega); done) | omega | simp | (simp +contextual; omega))
  refine d1 ?_ (hv := by first | with_reducible exact True.intro | (first | (simp [hs]; done) | (exact fun h => by simp [hget _ h]) | (exact fun h => ⟨h, by first | (simp [h]; done) | simpa [h] using hcmp _ h⟩) | (exact fun h => ⟨h, hcmp _ h⟩) | (simp; intros; omega); done) | omega | simp | (simp +contextual; omega))
  refine DGo.nil (by kernel_rfl) ⟨by kernel_rfl, ?_⟩
  refine qC.nil ?_
  refine cnd ?_ ?_
  ·intro h31
   try simp at h31
   have hjl : j < o.length := h31.1
   have hjp : j < qAC leV s o := by
    refine (zDV hj (hget j hjl)).1 ?_
    simp [hjl] at h31
    simpa [leV, hjl] using h31
   refine AW.skip ?_
   refine AW.block ?_
   refine rgz [] [[], [], [0, 1, 5, 6, 7]] ?_
   iterate 3 refine op1 tok ?_
   refine qA ?_
   exact ⟨j + 1, by omega, by omega, qB (by simp), rfl, by simp, by simp⟩
  ·intro h31
   try simp at h31
   have hjp : j = qAC leV s o := by
    by_cases h : j < qAC leV s o
    ·have hjl : j < o.length := by omega
     have := (zDV hj (hget j hjl)).2 h
     simp [hjl] at h31
     simp [leV, hjl] at this
     omega
    ·omega
   subst hjp
   refine AW.exit ?_
   simp
   refine AW.seq ?_
   refine AW.seqRunDrawK tok mixed [0, 1, 5, 6, 7, 51] 18 [[1], [34], [7, 35], [36, 35], [35, 37], [38], [5, 39], [7, 39], [41, 39], [40, 42, 39], [43, 39], [0, 39], [6, 39], [45, 46, 39], [47, 39], [44, 48, 39], [49, 39], [39, 50]] [] [] (by kernel_rfl) (by intro C; conv => lhs; simp) (by first | with_reducible exact True.intro | omega | simp | (simp +contextual; omega)) (by simp [Sm.sum, Sm.foot, Sm.tch, Sm.refs]; kernel_rfl) (by intro C; conv => lhs; simp) (by first | with_reducible exact True.intro | omega | simp | (simp +contextual; omega)) ?_
   refine cnd ?_ ?_
   ·intro h51
    try simp at h51
   ·intro h51
    try simp at h51
    refine AW.skip ?_
    refine rgn [] [[], [], [], [], [0, 1, 5, 6, 7, 56], [0, 1, 5, 6, 7, 8]] ?_
    iterate 6 refine op1 tok ?_
    refine qA ?_
    refine AW.seqDrawS tok mixed 11 [[], [5], [7], [58, 59], [57, 60], [0], [6], [62, 63], [64], [65], [61, 66]] [s.enc, s.enc] [] (by kernel_rfl) ?_
    iterate 11 refine d1 ?_ (hv := by first | with_reducible exact True.intro | (first | (simp [hs]; done) | (simp; omega); done) | omega | simp | (simp +contextual; omega))
    refine DGo.nil (by kernel_rfl) ⟨by kernel_rfl, ?_⟩
    refine qC.run [[0, 1, 5, 6, 8]] ?_
    refine op1 tok ?_
    refine qA ?_
    refine rgz [] [[], [], [0, 1, 6, 70], [0, 1, 5, 6]] ?_
    iterate 4 refine op1 tok ?_
    refine qA ?_
    refine AW.renE 67 9 (by simp) (by conv => lhs; simp) ?_
    refine rgz [] [[], [], [0, 1, 5, 6]] ?_
    iterate 3 refine op1 tok ?_
    refine qA ?_
    exact ⟨k + 1, by omega, by omega, qB (by simp [hnx, qHG, show List.take o.length (List.map Val.enc o) = List.map Val.enc o from List.take_of_length_le (by simp)]), rfl, by simp [hnx, qHG, show List.take o.length (List.map Val.enc o) = List.map Val.enc o from List.take_of_length_le (by simp)], by simp [hnx, qHG, show List.take o.length (List.map Val.enc o) = List.map Val.enc o from List.take_of_length_le (by simp)]⟩
 ·intro h13
  try simp at h13
  refine AW.exit ?_
  simp
  refine rgn [] [[], [4]] ?_
  iterate 2 refine op1 tok ?_
  refine qA ?_
  exact AW.ret (qI (k := by simp; rw [List.take_of_length_le (by omega)]))
theorem zHV (v : Val) (hv : qT v = true) (h6 : v.kind = 6) : AFn Tryz.prog G 67 [.str [115, 111, 114, 116], .str [], v.enc] ((qCS (wR v.kids) (qZ v)).enc) := by
 refine AFn.introU tok Tryz.func67 (by kernel_rfl) rfl rfl ?_
 simp only [Tryz.f67, qJ, List.map_cons, List.map_nil]
 have hd := zBI (G := G) v hv
 have ho := zBQ (G := G) v.kids (by have := kG hv; omega) (fun x hx => zU hv hx)
 have hl := zHD (G := G) (wR v.kids) (qZ v)
 generalize qCS (wR v.kids) (qZ v) = R at *
 simp only [Val.enc_def] at hd ho hl
 refine rgn [] [[], [0, 1, 5, 6]] ?_
 iterate 2 refine op1 tok ?_
 refine qA ?_
 refine rgn [.nilp, .int .u64 (qZ v)] [[], [], [0, 1, 5, 6, 7]] ?_
 iterate 3 refine op1 tok ?_ (hv := by first | with_reducible exact True.intro | (exact hd; done) | omega | simp | (simp +contextual; omega))
 refine qA ?_
 refine AW.seq ?_
 refine rgn [] [[], [], [], [], [], [0, 1, 5, 6, 7, 12, 15], [0, 1, 5, 6, 7, 16]] ?_
 iterate 3 refine op1 tok ?_
 iterate 3 refine op2 tok ?_
 refine op1 tok ?_
 refine qA ?_
 refine cnd ?_ ?_
 ·intro h16
  try simp at h16
 ·intro h16
  try simp at h16
  refine AW.skip ?_
  refine AW.seq ?_
  refine rgn [] [[], [], [], [], [], [0, 1, 5, 6, 7, 26]] ?_
  iterate 3 refine op1 tok ?_
  iterate 2 refine op2 tok ?_
  refine op1 tok ?_
  refine qA ?_
  refine cnd ?_ ?_
  ·intro h26
   try simp at h26
  ·intro h26
   try simp at h26
   refine AW.skip ?_
   refine AW.seq ?_
   refine rgn [] [[], [], [0, 1, 5, 6, 7, 32]] ?_
   iterate 3 refine op1 tok ?_
   refine qA ?_
   refine cnd ?_ ?_
   ·intro h32
    try simp at h32
    exact (h32 h6).elim
   ·intro h32
    try simp at h32
    refine AW.skip ?_
    refine AW.seq ?_
    refine rgn [] [[1, 5, 6, 7, 35]] ?_
    refine op1 tok ?_
    refine qA ?_
    refine AW.block ?_
    refine rgn [] [[], [1, 5, 6, 7, 35, 36]] ?_
    iterate 2 refine op1 tok ?_
    refine qA ?_
    refine cnd ?_ ?_
    ·intro h36
     try simp at h36
     refine rgn [.nilp, .sl 9 ((wR v.kids).map Val.enc), .nilp, R.enc] [[], [], [], [6, 40, 41], [], [6]] ?_
     iterate 6 refine op1 tok ?_ (hv := by first | with_reducible exact True.intro | (first | exact ho | exact hl; done) | omega | simp | (simp +contextual; omega))
     refine qA ?_
     exact AW.ret qI
    ·intro h36
     try simp at h36
theorem qTB (v : Val) (hv : qT v = true) (h6 : v.kind = 6) : AFn Tryz.prog G 23 [.str [115, 111, 114, 116], .str [], v.enc] ((qCS (wR v.kids) (qZ v)).enc) := by
 refine AFn.introU tok Tryz.func23 (by kernel_rfl) rfl rfl ?_
 simp only [Tryz.f23, qJ, List.map_cons, List.map_nil]
 have hd := zHV (G := G) v hv h6
 generalize qCS (wR v.kids) (qZ v) = R at *
 simp only [Val.enc_def] at hd
 refine rgn [] [[], [0, 1, 5, 6]] ?_
 iterate 2 refine op1 tok ?_
 refine qA ?_
 refine rgn [] [[], [], [0, 1, 5, 6, 7]] ?_
 iterate 3 refine op1 tok ?_
 refine qA ?_
 refine AW.seq ?_
 refine rgn [] [[]] ?_
 refine op1 tok ?_
 refine qA ?_
 refine AW.block ?_
 refine rgn [] [[], [0, 1, 5, 6, 7, 18, 19]] ?_
 iterate 2 refine op1 tok ?_
 refine qA ?_
 refine cnd ?_ ?_
 ·intro h19
  try simp at h19
 ·intro h19
  try simp at h19
  refine rgn [] [[], [0, 1, 5, 6, 7, 18, 23]] ?_
  iterate 2 refine op1 tok ?_
  refine qA ?_
  refine cnd ?_ ?_
  ·intro h23
   try simp at h23
  ·intro h23
   try simp at h23
   refine rgn [] [[], [0, 1, 5, 6, 7, 18, 27]] ?_
   iterate 2 refine op1 tok ?_
   refine qA ?_
   refine cnd ?_ ?_
   ·intro h27
    try simp at h27
   ·intro h27
    try simp at h27
    refine rgn [] [[], [0, 1, 5, 6, 7, 18, 42]] ?_
    iterate 2 refine op1 tok ?_
    refine qA ?_
    refine cnd ?_ ?_
    ·intro h42
     try simp at h42
    ·intro h42
     try simp at h42
     refine rgn [] [[], [0, 1, 5, 6, 7, 18, 48]] ?_
     iterate 2 refine op1 tok ?_
     refine qA ?_
     refine cnd ?_ ?_
     ·intro h48
      try simp at h48
     ·intro h48
      try simp at h48
      refine AW.seq ?_
      refine rgn [] [[], [0, 1, 5, 6, 7, 18, 75]] ?_
      iterate 2 refine op1 tok ?_
      refine qA ?_
      refine cnd ?_ ?_
      ·intro h75
       try simp at h75
      ·intro h75
       try simp at h75
       refine rgn [] [[], [0, 1, 5, 6, 7, 18, 75]] ?_
       iterate 2 refine op1 tok ?_
       refine qA ?_
       refine cnd ?_ ?_
       ·intro h75
        try simp at h75
       ·intro h75
        try simp at h75
        refine rgz [] [[], [0, 1, 5, 6, 7, 18, 75]] ?_
        iterate 2 refine op1 tok ?_
        refine qA ?_
        refine cnd ?_ ?_
        ·intro h75
         try simp at h75
        ·intro h75
         try simp at h75
         refine rgn [] [[], [0, 1, 5, 6, 7, 18, 82]] ?_
         iterate 2 refine op1 tok ?_
         refine qA ?_
         refine cnd ?_ ?_
         ·intro h82
          try simp at h82
         ·intro h82
          try simp at h82
          refine rgn [] [[], [0, 1, 5, 6, 7, 18, 103]] ?_
          iterate 2 refine op1 tok ?_
          refine qA ?_
          refine cnd ?_ ?_
          ·intro h103
           try simp at h103
          ·intro h103
           try simp at h103
           refine rgn [] [[], [0, 1, 5, 6, 7, 18, 107]] ?_
           iterate 2 refine op1 tok ?_
           refine qA ?_
           refine cnd ?_ ?_
           ·intro h107
            try simp at h107
           ·intro h107
            try simp at h107
            refine AW.seq ?_
            refine rgn [] [[], [0, 1, 5, 6, 18, 123]] ?_
            iterate 2 refine op1 tok ?_
            refine qA ?_
            refine cnd ?_ ?_
            ·intro h123
             try simp at h123
            ·intro h123
             try simp at h123
             refine rgn [] [[], [0, 1, 5, 6, 18, 123]] ?_
             iterate 2 refine op1 tok ?_
             refine qA ?_
             refine cnd ?_ ?_
             ·intro h123
              try simp at h123
             ·intro h123
              try simp at h123
              refine rgn [] [[], [0, 1, 5, 6, 18, 123]] ?_
              iterate 2 refine op1 tok ?_
              refine qA ?_
              refine cnd ?_ ?_
              ·intro h123
               try simp at h123
              ·intro h123
               try simp at h123
               refine rgz [] [[], [0, 1, 5, 6, 123]] ?_
               iterate 2 refine op1 tok ?_
               refine qA ?_
               refine cnd ?_ ?_
               ·intro h123
                try simp at h123
               ·intro h123
                try simp at h123
                refine AW.skip ?_
                refine rgn [.nilp, R.enc] [[], [], [], [6, 135], [6]] ?_
                iterate 5 refine op1 tok ?_ (hv := by first | with_reducible exact True.intro | (exact hd; done) | omega | simp | (simp +contextual; omega))
                refine qA ?_
                exact AW.ret qI
theorem zIW (n : Nat) (st : RS) (d : Nat) : kA (n + 1) st d = if ([91] : List UInt8).isPrefixOf (zT st d).left = true then ((zRW n (wE (zT st d) 1) (d + 1)).1, .mk 6 0 dc0 [] [] (zRW n (wE (zT st d) 1) (d + 1)).2 0)
  else if ([123] : List UInt8).isPrefixOf (zT st d).left = true then ((zOP n (wE (zT st d) 1) (d + 1)).1, .mk 7 0 dc0 [] (zOP n (wE (zT st d) 1) (d + 1)).2.1 (zOP n (wE (zT st d) 1) (d + 1)).2.2 0) else xU (zT st d) := by
 rw [kA]; rfl
attribute [local simp] wE
end Go.Proofs.YtdojfdaglbphlaaGreatDoor
namespace Go.Proofs.YtdojfdaglbphlaaGreatDoor
open Sy Go
set_option maxRecDepth 100000
set_option linter.unusedSimpArgs false
set_option linter.unusedVariables false
set_option maxHeartbeats 1000000
structure RQ where
 pos : Nat
 nodes : Nat
 bad : Bool
 deep : Bool
 big : Bool
 deriving DecidableEq
def blL (l : List UInt8) : Nat := (l.takeWhile qOK).length
def blQ (s : List UInt8) (q : RQ) : RQ := { q with pos := q.pos + blL (s.drop q.pos) }
def nxQ (s : List UInt8) (q : RQ) : UInt8 := s.getD q.pos 0
def wK (q : RQ) (k : Nat) : RQ := { q with pos := q.pos + k }
def zK (s : List UInt8) (q : RQ) : RQ × List UInt8 :=
 if (zJ (s.drop q.pos)).2.2 = 3 then ({ q with pos := q.pos + qEN (s.drop q.pos), big := true }, [])
 else ({ q with pos := q.pos + (zJ (s.drop q.pos)).2.1, bad := Bool.or q.bad (decide ((zJ (s.drop q.pos)).2.2 ≠ 0)) }, (zJ (s.drop q.pos)).1)
def zOQ (l : List UInt8) : Nat := (l.takeWhile yS).length
def vB (s : List UInt8) (q : RQ) : RQ × Val :=
 ({ q with pos := q.pos + zOQ (s.drop q.pos), big := Bool.or q.big (decide ((wG ((s.drop q.pos).takeWhile yS)).2 = 3)), bad := Bool.or q.bad (decide ((wG ((s.drop q.pos).takeWhile yS)).2 ≠ 3 ∧ (wG ((s.drop q.pos).takeWhile yS)).2 ≠ 0)) },
  .mk 4 0 (if (wG ((s.drop q.pos).takeWhile yS)).2 = 3 then ⟨false, [48], 0⟩ else (wG ((s.drop q.pos).takeWhile yS)).1) [] [] [] 0)
def uW (s w : List UInt8) (q : RQ) : Bool × RQ := if (s.drop q.pos).take w.length = w then (true, wK q w.length) else (false, q)
def zR (s : List UInt8) (q : RQ) (d : Nat) : RQ := ⟨(blQ s q).pos, q.nodes + 1, q.bad, Bool.or q.deep (decide (12 < d)), Bool.or q.big (decide (400 < q.nodes + 1))⟩
def qDQ (c : UInt8) : Bool := decide (c = 45) || qG c
def qDB (s : List UInt8) (q : RQ) : RQ × Val :=
 if (uW s qAN q).1 = true then ((uW s qAN q).2, .mk 1 0 dc0 [] [] [] 0)
 else if (uW s qAM q).1 = true then ((uW s qAM q).2, .mk 3 0 dc0 [] [] [] 0)
 else if (uW s xF q).1 = true then ((uW s xF q).2, .mk 2 0 dc0 [] [] [] 0)
 else ({ q with bad := true }, wW)
def qIM (s : List UInt8) (q : RQ) : RQ × List UInt8 :=
 let a := zK s q
 let b := blQ s a.1
 ({ b with pos := b.pos + 1, bad := Bool.or b.bad (decide (nxQ s b ≠ 58)) }, a.2)
def qBZ (s : List UInt8) (closes : UInt8) (many : Nat) (q : RQ) : Bool × RQ :=
 let a := blQ s { q with big := Bool.or q.big (decide (200 < many)) }
 if nxQ s a = closes then (true, wK a 1) else (false, { a with pos := a.pos + 1, bad := Bool.or a.bad (decide (nxQ s a ≠ 44)) })
def qPY (obj : Bool) (ks : List (List UInt8)) (vs : List Val) (key : List UInt8) (v : Val) : List (List UInt8) × List Val := if obj = true then jY ks vs key v else (ks, vs ++ [v])
def yY (s : List UInt8) (obj : Bool) (q : RQ) : RQ × List UInt8 := if obj = true then qIM s (blQ s q) else (blQ s q, [])
mutual
def kM (s : List UInt8) : Nat → RQ → Nat → RQ × Val
 | 0, q, _ => ({ q with bad := true }, wW)
 | n + 1, q, d =>
  if nxQ s (zR s q d) = 34 then ((zK s (zR s q d)).1, .mk 5 0 dc0 (zK s (zR s q d)).2 [] [] 0)
  else if nxQ s (zR s q d) = 91 then (let q1 := blQ s (wK (zR s q d) 1)
   let r := if nxQ s q1 = 93 then (wK q1 1, [], []) else yO s n q1 d false 93 0 [] []
   (r.1, .mk 6 0 dc0 [] r.2.1 r.2.2 0))
  else if nxQ s (zR s q d) = 123 then (let q1 := blQ s (wK (zR s q d) 1)
   let r := if nxQ s q1 = 125 then (wK q1 1, [], []) else yO s n q1 d true 125 0 [] []
   (r.1, .mk 7 0 dc0 [] r.2.1 r.2.2 0))
  else if qDQ (nxQ s (zR s q d)) = true then vB s (zR s q d)
  else qDB s (zR s q d)
def yO (s : List UInt8) : Nat → RQ → Nat → Bool → UInt8 → Nat → List (List UInt8) → List Val → RQ × List (List UInt8) × List Val
 | 0, q, _, _, _, _, ks, vs => ({ q with bad := true }, ks, vs)
 | n + 1, q, d, obj, closes, many, ks, vs =>
  if q.bad = true then (q, ks, vs) else
  if (yY s obj q).1.bad = true then ((yY s obj q).1, ks, vs) else
  let a := kM s n (yY s obj q).1 (d + 1)
  let b := qBZ s closes (many + 1) a.1
  let m := qPY obj ks vs (yY s obj q).2 a.2
  if b.1 = true then (b.2, m) else yO s n b.2 d obj closes (many + 1) m.1 m.2
end
def xS (s : List UInt8) (n : Nat) (q : RQ) (d : Nat) (obj : Bool) (closes : UInt8) : RQ × List (List UInt8) × List Val :=
 if nxQ s (blQ s (wK q 1)) = closes then (wK (blQ s (wK q 1)) 1, [], []) else yO s n (blQ s (wK q 1)) d obj closes 0 [] []
theorem qJG (s : List UInt8) (n : Nat) (q : RQ) (d : Nat) : kM s (n + 1) q d =
  if nxQ s (zR s q d) = 34 then ((zK s (zR s q d)).1, .mk 5 0 dc0 (zK s (zR s q d)).2 [] [] 0)
  else if nxQ s (zR s q d) = 91 then ((xS s n (zR s q d) d false 93).1, .mk 6 0 dc0 [] (xS s n (zR s q d) d false 93).2.1 (xS s n (zR s q d) d false 93).2.2 0)
  else if nxQ s (zR s q d) = 123 then ((xS s n (zR s q d) d true 125).1, .mk 7 0 dc0 [] (xS s n (zR s q d) d true 125).2.1 (xS s n (zR s q d) d true 125).2.2 0)
  else if qDQ (nxQ s (zR s q d)) = true then vB s (zR s q d)
  else qDB s (zR s q d) := by
 rw [kM]; rfl
theorem xL (s : List UInt8) (n : Nat) (q : RQ) (d : Nat) (obj : Bool) (closes : UInt8) (many : Nat) (ks : List (List UInt8)) (vs : List Val) : yO s (n + 1) q d obj closes many ks vs =
  if q.bad = true then (q, ks, vs) else
  if (yY s obj q).1.bad = true then ((yY s obj q).1, ks, vs) else
  if (qBZ s closes (many + 1) (kM s n (yY s obj q).1 (d + 1)).1).1 = true then ((qBZ s closes (many + 1) (kM s n (yY s obj q).1 (d + 1)).1).2, qPY obj ks vs (yY s obj q).2 (kM s n (yY s obj q).1 (d + 1)).2)
  else yO s n (qBZ s closes (many + 1) (kM s n (yY s obj q).1 (d + 1)).1).2 d obj closes (many + 1) (qPY obj ks vs (yY s obj q).2 (kM s n (yY s obj q).1 (d + 1)).2).1 (qPY obj ks vs (yY s obj q).2 (kM s n (yY s obj q).1 (d + 1)).2).2 := by
 rw [yO]
def qPX (s : List UInt8) : Val × Int × Int :=
 let r := kM s (2 * s.length + 2) ⟨0, 0, false, false, false⟩ 1
 if r.1.bad = true then (wW, 0, 10) else if r.1.deep = true then (wW, 0, 11) else if r.1.big = true then (wW, 0, 3) else (r.2, r.1.pos, 0)
structure SameR (s : List UInt8) (q : RQ) (st : RS) : Prop where
 left : st.left = s.drop q.pos
 le : q.pos ≤ s.length
 nodes : q.nodes = st.nodes
 bad : q.bad = false
 bad' : st.bad = false
 deep : q.deep = st.deep
 big : q.big = st.big
theorem zEX (l : List UInt8) : l.drop (blL l) = kB l ∧ blL l ≤ l.length := by
 unfold blL kB
 have h := List.takeWhile_append_dropWhile (p := qOK) (l := l)
 have h2 := (List.takeWhile_sublist qOK (l := l)).length_le
 generalize l.takeWhile qOK = A at *
 generalize l.dropWhile qOK = B at *
 subst h
 exact ⟨by simp, h2⟩
theorem qJC {s : List UInt8} {q : RQ} (h : q.pos ≤ s.length) : s.drop (blQ s q).pos = kB (s.drop q.pos) ∧ (blQ s q).pos ≤ s.length := by
 have := zEX (s.drop q.pos)
 unfold blQ
 simp only
 rw [← List.drop_drop]
 rw [List.length_drop] at this
 exact ⟨this.1, by omega⟩
theorem qIC {s : List UInt8} {q : RQ} {c : UInt8} (hc : c ≠ 0) : nxQ s q = c ↔ ([c] : List UInt8).isPrefixOf (s.drop q.pos) = true := by
 unfold nxQ
 rw [List.getD_eq_getElem?_getD]
 have e : s[q.pos]? = (s.drop q.pos)[0]? := by rw [List.getElem?_drop, Nat.add_zero]
 rw [e]
 cases s.drop q.pos with
 | nil =>
  constructor
  ·intro h; exact absurd h.symm hc
  ·intro h; cases h
 | cons b r =>
  simp only [List.getElem?_cons_zero, Option.getD_some, List.isPrefixOf, Bool.and_true, beq_iff_eq]
  exact eq_comm
theorem SameR.bl {s : List UInt8} {q : RQ} {st : RS} (h : SameR s q st) : SameR s (blQ s q) { st with left := kB st.left } :=
 ⟨by rw [h.left]; exact (qJC h.le).1.symm, (qJC h.le).2, h.nodes, h.bad, h.bad', h.deep, h.big⟩
theorem SameR.adv {s : List UInt8} {q : RQ} {st : RS} (h : SameR s q st) {k : Nat} (hk : k ≤ st.left.length) : SameR s (wK q k) (wE st k) :=
 ⟨by simp only [wE, wK]; rw [h.left, List.drop_drop], by have := h.left; have := h.le; simp only [wK]; rw [h.left, List.length_drop] at hk; omega, h.nodes, h.bad, h.bad', h.deep, h.big⟩
theorem SameR.take {s : List UInt8} {q : RQ} {st : RS} (h : SameR s q st) {c : UInt8} (hc : c ≠ 0) : (nxQ s (blQ s q) = c ↔ (tk [c] st).1 = true) ∧ (nxQ s (blQ s q) = c → SameR s (wK (blQ s q) 1) (tk [c] st).2) ∧ (nxQ s (blQ s q) ≠ c → SameR s (blQ s q) (tk [c] st).2) := by
 have hb := h.bl
 have hx := qIC (s := s) (q := blQ s q) hc
 have hl : s.drop (blQ s q).pos = kB st.left := hb.left.symm
 rw [hl] at hx
 refine ⟨?_, fun e => ?_, fun e => ?_⟩
 ·rw [hx]; unfold tk; split <;> simp_all
 ·have e2 := hx.1 e
  have hp := wT e2
  unfold tk
  rw [if_pos e2]
  exact hb.adv (k := 1) (by simpa using hp)
 ·unfold tk
  rw [if_neg (fun h => e (hx.2 h))]
  exact hb
theorem qXR (s : List UInt8) : (wG s).2 = 0 ∨ (wG s).2 = 3 ∨ (wG s).2 = 4 := by
 have hn : ∀ ng dg sc, (yK ng dg sc).2 = 0 ∨ (yK ng dg sc).2 = 3 := fun ng dg sc => by
  unfold yK; simp only; split
  ·exact .inl rfl
  ·split
   ·exact .inr rfl
   ·exact .inl rfl
 have hl : ∀ ng dg sc, (vE ng dg sc).2 = 0 ∨ (vE ng dg sc).2 = 3 := fun ng dg sc => by
  unfold vE; split <;> exact hn _ _ _
 unfold wG
 split
 ·exact .inr (.inr rfl)
 ·unfold qZB
  split
  ·exact .inr (.inr rfl)
  ·split
   ·exact .inr (.inr rfl)
   ·rcases hl (qUM s) (List.takeWhile qG (uZ s) ++ _) _ with h | h
    ·exact .inl h
    ·exact .inr (.inl h)
theorem qWN : ∀ (f : Nat) (s : List UInt8) (k : Nat) (out : List UInt8), (vM f s k out).2.2 ≠ 0 → (vM f s k out).1 = []
 | 0, _, _, _ => fun _ => by simp [vM]
 | f + 1, s, k, out => by
  simp only [vM]
  repeat' split
  all_goals first | exact fun h => qWN f _ _ _ h | (intro h; rfl) | (intro h; exact absurd rfl h)
theorem qKP (s : List UInt8) : (zJ s).2.2 ≠ 0 → (zJ s).1 = [] := by
 unfold zJ
 split
 ·exact qWN _ _ _ _
 ·exact fun _ => rfl
theorem SameR.quoted {s : List UInt8} {q : RQ} {st : RS} (h : SameR s q st) (ht : kB st.left = st.left) : (zK s q).1.bad = (qU st).1.bad ∧ (zK s q).2 = (qU st).2 ∧ ((qU st).1.bad = false → SameR s (zK s q).1 (qU st).1) := by
 have hp := qBR st.left
 have hk := qMW st.left
 have e1 := qKP st.left
 unfold zK qU qBL
 rw [ht, ← h.left]
 have hl := h.left
 have hle : st.left.length = s.length - q.pos := by rw [hl, List.length_drop]
 have hqp := h.le
 generalize zJ st.left = u at *
 by_cases c1 : u.2.2 = 3
 ·rw [if_pos c1, if_neg (by rw [c1]; decide), if_pos c1]
  refine ⟨by rw [h.bad]; exact h.bad'.symm, (e1 (by rw [c1]; decide)).symm, fun _ => ?_⟩
  exact ⟨by simp only; rw [hl, List.drop_drop, ← hl], by simp only; omega, h.nodes, h.bad, h.bad', h.deep, rfl⟩
 ·rw [if_neg c1]
  by_cases c2 : u.2.2 = 0
  ·rw [if_pos c2]
   refine ⟨by simp only; rw [h.bad, h.bad', c2]; rfl, rfl, fun _ => ?_⟩
   exact ⟨by simp only; rw [hl, List.drop_drop], by simp only; omega, h.nodes, by simp only; rw [h.bad, c2]; rfl, h.bad', h.deep, h.big⟩
  ·rw [if_neg c2, if_neg c1]
   refine ⟨by simp only; rw [decide_eq_true c2]; simp, rfl, fun hb => by simp at hb⟩
theorem qXV (l : List UInt8) : l.drop (zOQ l) = l.dropWhile yS ∧ zOQ l ≤ l.length := by
 unfold zOQ
 have h := List.takeWhile_append_dropWhile (p := yS) (l := l)
 have h2 := (List.takeWhile_sublist yS (l := l)).length_le
 generalize l.takeWhile yS = A at *
 generalize l.dropWhile yS = B at *
 subst h
 exact ⟨by simp, h2⟩
theorem SameR.number {s : List UInt8} {q : RQ} {st : RS} (h : SameR s q st) : (vB s q).1.bad = (kV st).1.bad ∧ ((kV st).1.bad = false → SameR s (vB s q).1 (kV st).1 ∧ ((kV st).1.big = false → (vB s q).2 = (kV st).2)) := by
 have hc := qXR (st.left.takeWhile yS)
 have hd := qXV st.left
 have hl := h.left
 have hle : st.left.length = s.length - q.pos := by rw [hl, List.length_drop]
 have hqp := h.le
 unfold vB kV
 rw [← h.left]
 generalize wG (st.left.takeWhile yS) = p at *
 simp only
 refine ⟨?_, fun hb => ⟨⟨by simp only; rw [← hd.1, hl, List.drop_drop, ← hl], by simp only; omega, h.nodes, ?_, ?_, h.deep, ?_⟩, fun hg => ?_⟩⟩
 ·rw [h.bad, h.bad']
  rcases hc with h | h | h <;> rw [h] <;> rfl
 ·simp only [Bool.or_eq_false_iff, decide_eq_false_iff_not] at hb
  rw [h.bad]
  rcases hc with h | h | h
  ·rw [h]; rfl
  ·rw [h]; rfl
  ·exact absurd h hb.2
 ·exact hb
 ·rw [h.big]
 ·simp only [Bool.or_eq_false_iff, decide_eq_false_iff_not] at hg
  rw [if_neg hg.2]
theorem qWG {s w : List UInt8} {q : RQ} : (s.drop q.pos).take w.length = w ↔ w.isPrefixOf (s.drop q.pos) = true := by
 rw [List.isPrefixOf_iff_prefix, List.prefix_iff_eq_take, eq_comm]
theorem SameR.words {s : List UInt8} {q : RQ} {st : RS} (h : SameR s q st) (h1 : ¬ nxQ s q = 34) (h2 : qDQ (nxQ s q) = false) : (qDB s q).1.bad = (xU st).1.bad ∧ ((xU st).1.bad = false → SameR s (qDB s q).1 (xU st).1 ∧ (qDB s q).2 = (xU st).2) := by
 have h34 : ¬ ([34] : List UInt8).isPrefixOf st.left = true := by rw [h.left]; exact fun e => h1 ((qIC (by decide)).2 e)
 have hnum : ¬ (st.left ≠ [] ∧ (qS st.left 0 = 45 ∨ kU (qS st.left 0) = true)) := by
  rintro ⟨g1, g2⟩
  have e : nxQ s q = st.left.getD 0 0 := by rw [h.left]; unfold nxQ; simp [List.getD_eq_getElem?_getD]
  rw [e] at h2
  unfold qDQ at h2
  simp only [Bool.or_eq_false_iff, decide_eq_false_iff_not] at h2
  rcases g2 with g | g
  ·exact h2.1 (UInt8.toNat_inj.1 (by unfold qS at g; show (st.left.getD 0 0).toNat = 45; omega))
  ·have : qG (st.left.getD 0 0) = true := g
   rw [this] at h2; exact absurd h2.2 (by decide)
 have key : ∀ w : List UInt8, uW s w q = if w.isPrefixOf st.left = true then (true, wK q w.length) else (false, q) := fun w => by
  unfold uW
  rw [h.left]
  by_cases c : w.isPrefixOf (s.drop q.pos) = true
  ·rw [if_pos c, if_pos (qWG.2 c)]
  ·rw [if_neg c, if_neg (fun e => c (qWG.1 e))]
 have k1 := key qAN
 have k2 := key qAM
 have k3 := key xF
 have hbb : q.bad = st.bad := by rw [h.bad, h.bad']
 unfold qDB xU
 rw [k1, k2, k3]
 by_cases c1 : qAN.isPrefixOf st.left = true
 ·rw [if_pos c1, if_pos c1, if_pos rfl]
  exact ⟨hbb, fun _ => ⟨h.adv (wT c1), rfl⟩⟩
 ·rw [if_neg c1, if_neg c1, if_neg (by simp)]
  by_cases c2 : qAM.isPrefixOf st.left = true
  ·rw [if_pos c2, if_pos c2, if_pos rfl]
   exact ⟨hbb, fun _ => ⟨h.adv (wT c2), rfl⟩⟩
  ·rw [if_neg c2, if_neg c2, if_neg (by simp)]
   by_cases c3 : xF.isPrefixOf st.left = true
   ·rw [if_pos c3, if_pos c3, if_pos rfl]
    exact ⟨hbb, fun _ => ⟨h.adv (wT c3), rfl⟩⟩
   ·rw [if_neg c3, if_neg c3, if_neg (by simp), if_neg h34, if_neg hnum]
    exact ⟨rfl, fun hb => by cases hb⟩
theorem zEW : ∀ l : List UInt8, blL (kB l) = 0
 | [] => rfl
 | b :: l => by
  have ih := zEW l
  unfold kB blL at ih ⊢
  rw [List.dropWhile_cons]
  split
  ·exact ih
  ·rename_i h; rw [List.takeWhile_cons, if_neg h]; rfl
theorem zAB {s : List UInt8} {q : RQ} (h : q.pos ≤ s.length) : blQ s (blQ s q) = blQ s q := by
 have := (qJC h).1
 unfold blQ at this ⊢
 simp only at this ⊢
 rw [this, zEW]; rfl
theorem SameR.beh {s : List UInt8} {q : RQ} {st : RS} (h : SameR s q st) {c : UInt8} (hc : c ≠ 0) (many : Nat) :
  (qBZ s c many q).1 = (uH c many st).1 ∧ (qBZ s c many q).2.bad = (uH c many st).2.bad ∧ ((uH c many st).2.bad = false → SameR s (qBZ s c many q).2 (uH c many st).2) := by
 have h1 : SameR s { q with big := Bool.or q.big (decide (200 < many)) } { st with big := st.big || decide (200 < many) } := ⟨h.left, h.le, h.nodes, h.bad, h.bad', h.deep, by simp only; rw [h.big]⟩
 have hsep : uH c many st = if ({ st with big := st.big || decide (200 < many) } : RS).bad = true then (true, { st with big := st.big || decide (200 < many) }) else if (tk [c] { st with big := st.big || decide (200 < many) }).1 = true then (true, (tk [c] { st with big := st.big || decide (200 < many) }).2) else (false, { (tk [44] (tk [c] { st with big := st.big || decide (200 < many) }).2).2 with bad := !(tk [44] (tk [c] { st with big := st.big || decide (200 < many) }).2).1 }) := rfl
 rw [hsep]
 unfold qBZ
 simp only
 generalize ({ q with big := Bool.or q.big (decide (200 < many)) } : RQ) = q1 at *
 generalize ({ st with big := st.big || decide (200 < many) } : RS) = st1 at *
 have hsb := h1.bad'
 obtain ⟨t1, t2, t3⟩ := h1.take hc
 rw [if_neg (show ¬ st.bad = true by rw [h.bad']; simp)]
 by_cases e : nxQ s (blQ s q1) = c
 ·rw [if_pos e, if_pos (t1.1 e)]
  have := t2 e
  exact ⟨rfl, by simp only; rw [this.bad, this.bad'], fun _ => this⟩
 ·rw [if_neg e, if_neg (fun h => e (t1.2 h))]
  have g := t3 e
  obtain ⟨u1, u2, u3⟩ := g.take (c := 44) (by decide)
  rw [zAB h1.le] at u1 u2 u3
  refine ⟨rfl, ?_, fun hb => ?_⟩
  ·simp only
   rw [g.bad]
   by_cases e2 : nxQ s (blQ s q1) = 44
   ·rw [u1.1 e2]; simp [e2]
   ·have : (tk [44] (tk [c] st1).2).1 = false := by
     cases hh : (tk [44] (tk [c] st1).2).1 with
     | false => rfl
     | true => exact absurd (u1.2 hh) e2
    rw [this]; simp [e2]
  ·have hb' : (tk [44] (tk [c] st1).2).1 = true := by simpa using hb
   have e2 := u1.2 hb'
   have k := u2 e2
   exact ⟨k.left, k.le, k.nodes, by simp only; rw [g.bad, e2]; rfl, hb, k.deep, k.big⟩
theorem qUE (st : RS) : qU { st with left := kB st.left } = qU st := by
 unfold qU qBL
 simp only [qAP]
theorem SameR.key {s : List UInt8} {q : RQ} {st : RS} (h : SameR s q st) :
  (qIM s (blQ s q)).1.bad = (yA (qU st).1).bad ∧ (qIM s (blQ s q)).2 = (qU st).2 ∧ ((yA (qU st).1).bad = false → SameR s (qIM s (blQ s q)).1 (yA (qU st).1)) := by
 obtain ⟨q1, q2, q3⟩ := h.bl.quoted (qAP _)
 rw [qUE] at q1 q2 q3
 unfold qIM
 simp only
 by_cases hb : (qU st).1.bad = true
 ·have hc : yA (qU st).1 = (qU st).1 := by unfold yA; rw [if_pos hb]
  rw [hc]
  refine ⟨?_, q2, fun h' => by rw [hb] at h'; cases h'⟩
  show Bool.or (zK s (blQ s q)).1.bad _ = _
  rw [q1, hb]; rfl
 ·have hb' : (qU st).1.bad = false := by simpa using hb
  have g := q3 hb'
  have hc : yA (qU st).1 = { (tk [58] (qU st).1).2 with bad := !(tk [58] (qU st).1).1 } := by unfold yA; rw [if_neg hb]
  rw [hc]
  obtain ⟨t1, t2, t3⟩ := g.take (c := 58) (by decide)
  refine ⟨?_, q2, fun h' => ?_⟩
  ·show Bool.or (zK s (blQ s q)).1.bad _ = _
   rw [q1, hb']
   by_cases e : nxQ s (blQ s (zK s (blQ s q)).1) = 58
   ·rw [t1.1 e]; simp [e]
   ·have : (tk [58] (qU st).1).1 = false := by
     cases hh : (tk [58] (qU st).1).1 with
     | false => rfl
     | true => exact absurd (t1.2 hh) e
    rw [this]; simp [e]
  ·have e := t1.2 (by simpa using h')
   have k := t2 e
   exact ⟨k.left, k.le, k.nodes, by show Bool.or (zK s (blQ s q)).1.bad _ = _; rw [q1, hb', e]; rfl, h', k.deep, k.big⟩
theorem qEY {s : List UInt8} {n : Nat} {q : RQ} {d : Nat} {obj : Bool} {c : UInt8} {many : Nat} {ks : List (List UInt8)} {vs : List Val} (h : q.bad = true) : (yO s n q d obj c many ks vs).1.bad = true := by
 cases n with
 | zero => simp [yO]
 | succ n => rw [xL, if_pos h]; exact h
theorem zEH {n : Nat} {st : RS} {d many : Nat} {vs : List Val} (h : st.bad = true) : (qBG n st d many vs).1.bad = true := by
 cases n with
 | zero => simp [qBG]
 | succ n => rw [qYK, if_pos h]; exact h
theorem zDY {n : Nat} {st : RS} {d many : Nat} {ks : List (List UInt8)} {vs : List Val} (h : st.bad = true) : (qBF n st d many ks vs).1.bad = true := by
 cases n with
 | zero => simp [qBF]
 | succ n => rw [qBF, if_pos h]; exact h
theorem zEZ {s : List UInt8} {c : UInt8} {many : Nat} {q : RQ} (h : q.bad = true) : (qBZ s c many q).2.bad = true := by
 unfold qBZ; simp only; split
 ·exact h
 ·simp only [blQ]; rw [h]; rfl
theorem qMY {c : UInt8} {many : Nat} {st : RS} (h : st.bad = true) : uH c many st = (true, { st with big := st.big || decide (200 < many) }) := by
 unfold uH; simp only; rw [if_pos h]
theorem qXE {c : UInt8} {many : Nat} {st : RS} (h : (uH c many st).2.big = false) : st.big = false := by
 unfold uH at h; simp only at h
 split at h
 ·simp only [Bool.or_eq_false_iff] at h; exact h.1
 ·split at h
  ·rw [zJG] at h; simp only [Bool.or_eq_false_iff] at h; exact h.1
  ·simp only [zJG, Bool.or_eq_false_iff] at h; exact h.1
theorem zCS {st : RS} (h : (yA st).big = false) : st.big = false := by
 unfold yA at h; split at h
 ·exact h
 ·simpa using h
theorem qER {st : RS} (h : (qU st).1.big = false) : st.big = false := by
 unfold qU qBL at h; split at h
 ·exact h
 ·split at h
  ·cases h
  ·exact h
theorem zOK (ks : List (List UInt8)) (vs vs' : List Val) (k : List UInt8) (v v' : Val) : (jY ks vs k v).1 = (jY ks vs' k v').1 := by
 unfold jY; split <;> rfl
theorem qRF (s : List UInt8) : ∀ n : Nat,
  (∀ q st d, SameR s (blQ s q) { st with left := kB st.left } → (kM s n q d).1.bad = (kA n st d).1.bad ∧ ((kA n st d).1.bad = false → SameR s (kM s n q d).1 (kA n st d).1 ∧ ((kA n st d).1.big = false → st.big = false ∧ (kM s n q d).2 = (kA n st d).2))) ∧
  (∀ q st d many vs vs', SameR s q st → (st.big = false → vs' = vs) → (yO s n q d false 93 many [] vs').1.bad = (qBG n st (d + 1) (many + 1) vs).1.bad ∧ ((qBG n st (d + 1) (many + 1) vs).1.bad = false → SameR s (yO s n q d false 93 many [] vs').1 (qBG n st (d + 1) (many + 1) vs).1 ∧ (yO s n q d false 93 many [] vs').2.1 = [] ∧ ((qBG n st (d + 1) (many + 1) vs).1.big = false → st.big = false ∧ (yO s n q d false 93 many [] vs').2.2 = (qBG n st (d + 1) (many + 1) vs).2))) ∧
  (∀ q st d many ks vs vs', SameR s q st → (st.big = false → vs' = vs) → (yO s n q d true 125 many ks vs').1.bad = (qBF n st (d + 1) (many + 1) ks vs).1.bad ∧ ((qBF n st (d + 1) (many + 1) ks vs).1.bad = false → SameR s (yO s n q d true 125 many ks vs').1 (qBF n st (d + 1) (many + 1) ks vs).1 ∧ (yO s n q d true 125 many ks vs').2.1 = (qBF n st (d + 1) (many + 1) ks vs).2.1 ∧ ((qBF n st (d + 1) (many + 1) ks vs).1.big = false → st.big = false ∧ (yO s n q d true 125 many ks vs').2.2 = (qBF n st (d + 1) (many + 1) ks vs).2.2)))
 | 0 => ⟨fun q st d _ => by simp [kM, kA], fun q st d many vs vs' _ _ => by simp [yO, qBG], fun q st d many ks vs vs' _ _ => by simp [yO, qBF]⟩
 | n + 1 => by
  obtain ⟨ih1, ih2, ih3⟩ := qRF s n
  refine ⟨fun q st d h => ?_, fun q st d many vs vs' h hv => ?_, fun q st d many ks vs vs' h hv => ?_⟩
  ·have hE : SameR s (zR s q d) (zT st d) := ⟨h.left, h.le, by show q.nodes + 1 = st.nodes + 1; have := h.nodes; simp only [blQ] at this; omega, h.bad, h.bad', by
    have := h.deep; simp only [blQ] at this; show Bool.or q.deep _ = Bool.or st.deep _; rw [this], by
    have hn := h.nodes; simp only [blQ] at hn; have := h.big; simp only [blQ] at this; show Bool.or q.big _ = Bool.or st.big _; rw [this, hn]⟩
   have hEt : kB (zT st d).left = (zT st d).left := qAP _
   have hbg : (zT st d).big = false → st.big = false := fun h => by
    have : Bool.or st.big (decide (400 < st.nodes + 1)) = false := h
    simp only [Bool.or_eq_false_iff] at this; exact this.1
   rw [zIW, qJG]
   have x34 := qIC (s := s) (q := zR s q d) (c := 34) (by decide)
   have x91 := qIC (s := s) (q := zR s q d) (c := 91) (by decide)
   have x123 := qIC (s := s) (q := zR s q d) (c := 123) (by decide)
   rw [← hE.left] at x34 x91 x123
   generalize zR s q d = Q at *
   generalize zT st d = E at *
   have hkids : ∀ (obj : Bool) (c : UInt8), c ≠ 0 → 1 ≤ E.left.length → True → (nxQ s (blQ s (wK Q 1)) = c ↔ (tk [c] (wE E 1)).1 = true) ∧ (nxQ s (blQ s (wK Q 1)) = c → SameR s (wK (blQ s (wK Q 1)) 1) (tk [c] (wE E 1)).2) ∧ (nxQ s (blQ s (wK Q 1)) ≠ c → SameR s (blQ s (wK Q 1)) (tk [c] (wE E 1)).2) := fun obj c hc hl _ => (hE.adv hl).take hc
   by_cases c1 : nxQ s Q = 34
   ·rw [if_pos c1]
    have n91 : ¬ nxQ s Q = 91 := by rw [c1]; decide
    have n123 : ¬ nxQ s Q = 123 := by rw [c1]; decide
    rw [if_neg (fun h => n91 (x91.2 h)), if_neg (fun h => n123 (x123.2 h))]
    have hp := x34.1 c1
    obtain ⟨t, ht⟩ := List.isPrefixOf_iff_prefix.1 hp
    have hat : xU E = ((qU E).1, .mk 5 0 dc0 (qU E).2 [] [] 0) := by
     unfold xU
     rw [if_neg (by rw [← ht]; simp [qAN, List.isPrefixOf]), if_neg (by rw [← ht]; simp [qAM, List.isPrefixOf]), if_neg (by rw [← ht]; simp [xF, List.isPrefixOf]), if_pos hp]
    rw [hat]
    obtain ⟨g1, g2, g3⟩ := hE.quoted hEt
    exact ⟨g1, fun hb => ⟨g3 hb, fun hg => ⟨hbg (qER hg), by simp only; rw [g2]⟩⟩⟩
   ·rw [if_neg c1]
    by_cases c2 : nxQ s Q = 91
    ·rw [if_pos c2, if_pos (x91.1 c2)]
     have hl := wT (x91.1 c2)
     obtain ⟨t1, t2, t3⟩ := hkids false 93 (by decide) (by simpa using hl) trivial
     have hld : (wE E 1).big = E.big := rfl
     unfold xS zRW
     by_cases e : nxQ s (blQ s (wK Q 1)) = 93
     ·rw [if_pos e, if_pos (t1.1 e)]
      have g := t2 e
      exact ⟨by simp only; rw [g.bad, g.bad'], fun _ => ⟨g, fun hg => ⟨hbg (by simpa [hld] using hg), rfl⟩⟩⟩
     ·rw [if_neg e, if_neg (fun h => e (t1.2 h))]
      have g := t3 e
      obtain ⟨k1, k2⟩ := ih2 _ _ d 0 [] [] g (fun _ => rfl)
      refine ⟨k1, fun hb => ?_⟩
      obtain ⟨k3, k4, k5⟩ := k2 hb
      refine ⟨k3, fun hg => ?_⟩
      obtain ⟨k6, k7⟩ := k5 hg
      refine ⟨hbg (by simpa [hld] using k6), ?_⟩
      simp only
      rw [k4, k7]
    ·rw [if_neg c2, if_neg (fun h => c2 (x91.2 h))]
     by_cases c3 : nxQ s Q = 123
     ·rw [if_pos c3, if_pos (x123.1 c3)]
      have hl := wT (x123.1 c3)
      obtain ⟨t1, t2, t3⟩ := hkids true 125 (by decide) (by simpa using hl) trivial
      have hld : (wE E 1).big = E.big := rfl
      unfold xS zOP
      by_cases e : nxQ s (blQ s (wK Q 1)) = 125
      ·rw [if_pos e, if_pos (t1.1 e)]
       have g := t2 e
       exact ⟨by simp only; rw [g.bad, g.bad'], fun _ => ⟨g, fun hg => ⟨hbg (by simpa [hld] using hg), rfl⟩⟩⟩
      ·rw [if_neg e, if_neg (fun h => e (t1.2 h))]
       have g := t3 e
       obtain ⟨k1, k2⟩ := ih3 _ _ d 0 [] [] [] g (fun _ => rfl)
       refine ⟨k1, fun hb => ?_⟩
       obtain ⟨k3, k4, k5⟩ := k2 hb
       refine ⟨k3, fun hg => ?_⟩
       obtain ⟨k6, k7⟩ := k5 hg
       refine ⟨hbg (by simpa [hld] using k6), ?_⟩
       simp only
       rw [k4, k7]
     ·rw [if_neg c3, if_neg (fun h => c3 (x123.2 h))]
      by_cases c4 : qDQ (nxQ s Q) = true
      ·rw [if_pos c4]
       have e : nxQ s Q = E.left.getD 0 0 := by rw [hE.left]; unfold nxQ; simp [List.getD_eq_getElem?_getD]
       have hne : E.left ≠ [] := by intro h0; rw [e, h0] at c4; exact absurd c4 (by decide)
       obtain ⟨b, t, ht⟩ := List.exists_cons_of_ne_nil hne
       have hb : b = nxQ s Q := by rw [e, ht]; rfl
       have hbn : qDQ b = true := by rw [hb]; exact c4
       have hat : xU E = kV E := by
        have k1 : ¬ b = 110 := by rintro rfl; revert hbn; decide
        have k2 : ¬ b = 116 := by rintro rfl; revert hbn; decide
        have k3 : ¬ b = 102 := by rintro rfl; revert hbn; decide
        have k4 : ¬ b = 34 := by rintro rfl; revert hbn; decide
        unfold xU
        rw [if_neg (by rw [ht]; simp [qAN, List.isPrefixOf]; intro h; exact absurd h.symm k1), if_neg (by rw [ht]; simp [qAM, List.isPrefixOf]; intro h; exact absurd h.symm k2), if_neg (by rw [ht]; simp [xF, List.isPrefixOf]; intro h; exact absurd h.symm k3), if_neg (by rw [ht]; simp [List.isPrefixOf]; exact fun h => k4 h.symm), if_pos]
        refine ⟨hne, ?_⟩
        have hb0 : qS E.left 0 = (b.toNat : Int) := by rw [ht]; rfl
        rw [hb0]
        unfold qDQ at hbn
        simp only [Bool.or_eq_true, decide_eq_true_eq] at hbn
        rcases hbn with rfl | h
        ·exact .inl rfl
        ·exact .inr h
       rw [hat]
       obtain ⟨g1, g2⟩ := hE.number
       refine ⟨g1, fun hb => ?_⟩
       obtain ⟨g3, g4⟩ := g2 hb
       refine ⟨g3, fun hg => ⟨hbg ?_, g4 hg⟩⟩
       unfold kV at hg
       simp only [Bool.or_eq_false_iff] at hg
       exact hg.1
      ·rw [if_neg c4]
       obtain ⟨g1, g2⟩ := hE.words c1 (by simpa using c4)
       refine ⟨g1, fun hb => ?_⟩
       obtain ⟨g3, g4⟩ := g2 hb
       refine ⟨g3, fun hg => ⟨hbg ?_, g4⟩⟩
       unfold xU at hg
       split at hg
       ·exact hg
       ·split at hg
        ·exact hg
        ·split at hg
         ·exact hg
         ·split at hg
          ·exact qER hg
          ·split at hg
           ·unfold kV at hg; simp only [Bool.or_eq_false_iff] at hg; exact hg.1
           ·exact hg
  ·rw [xL, qYK, if_neg (show ¬ q.bad = true by rw [h.bad]; simp), if_neg (show ¬ st.bad = true by rw [h.bad']; simp)]
   have hd : yY s false q = (blQ s q, []) := rfl
   rw [hd, if_neg (by simp only; rw [h.bl.bad]; simp)]
   obtain ⟨v1, v2⟩ := ih1 (blQ s q) st (d + 1) (by rw [zAB h.le]; exact h.bl)
   simp only
   generalize kM s n (blQ s q) (d + 1) = A at *
   generalize kA n st (d + 1) = B at *
   have hm : ∀ key, qPY false [] vs' key A.2 = ([], vs' ++ [A.2]) := fun _ => rfl
   simp only [hm]
   by_cases hb : B.1.bad = true
   ·rw [hb] at v1
    have e1 := zEZ (s := s) (c := 93) (many := many + 1) v1
    rw [qMY hb, if_pos rfl]
    refine ⟨?_, fun h' => by simp only at h'; rw [hb] at h'; cases h'⟩
    simp only; rw [hb]
    split
    ·exact e1
    ·exact qEY e1
   ·have hb' : B.1.bad = false := by simpa using hb
    obtain ⟨v3, v4⟩ := v2 hb'
    obtain ⟨s1, s2, s3⟩ := v3.beh (c := 93) (by decide) (many + 1)
    have sb := qXE (c := 93) (many := many + 1) (st := B.1)
    generalize qBZ s 93 (many + 1) A.1 = X at *
    generalize uH 93 (many + 1) B.1 = Y at *
    rw [s1]
    by_cases hy : Y.1 = true
    ·rw [if_pos hy, if_pos hy]
     refine ⟨s2, fun h' => ⟨s3 h', rfl, fun hg => ?_⟩⟩
     obtain ⟨w1, w2⟩ := v4 (sb hg)
     exact ⟨w1, by simp only; rw [hv w1, w2]⟩
    ·rw [if_neg hy, if_neg hy]
     by_cases hyb : Y.2.bad = true
     ·rw [hyb] at s2
      exact ⟨by rw [qEY s2, zEH hyb], fun h' => by rw [zEH hyb] at h'; cases h'⟩
     ·have g := s3 (by simpa using hyb)
      obtain ⟨k1, k2⟩ := ih2 X.2 Y.2 d (many + 1) (vs ++ [B.2]) (vs' ++ [A.2]) g (fun hg => by
       obtain ⟨w1, w2⟩ := v4 (sb hg)
       rw [hv w1, w2])
      refine ⟨k1, fun h' => ?_⟩
      obtain ⟨k3, k4, k5⟩ := k2 h'
      refine ⟨k3, k4, fun hg => ?_⟩
      obtain ⟨k6, k7⟩ := k5 hg
      exact ⟨(v4 (sb k6)).1, k7⟩
  ·rw [xL, qBF, if_neg (show ¬ q.bad = true by rw [h.bad]; simp), if_neg (show ¬ st.bad = true by rw [h.bad']; simp)]
   have hd : yY s true q = qIM s (blQ s q) := rfl
   obtain ⟨y1, y2, y3⟩ := h.key
   have ybig : (yA (qU st).1).big = false → st.big = false := fun h => qER (zCS h)
   rw [hd]
   generalize qIM s (blQ s q) = K at *
   simp only
   generalize (qU st).2 = key at *
   generalize yA (qU st).1 = C at *
   by_cases hC : C.bad = true
   ·rw [hC] at y1
    rw [if_pos y1]
    simp only [hC, if_true]
    rw [qMY hC, if_pos rfl]
    exact ⟨by simp only; rw [y1, hC], fun h' => by simp only at h'; rw [hC] at h'; cases h'⟩
   ·have hC' : C.bad = false := by simpa using hC
    have g := y3 hC'
    rw [if_neg (by rw [g.bad]; simp)]
    simp only [hC', Bool.false_eq_true, if_false]
    obtain ⟨v1, v2⟩ := ih1 K.1 C (d + 1) g.bl
    rw [y2]
    generalize kM s n K.1 (d + 1) = A at *
    generalize kA n C (d + 1) = B at *
    have hm : qPY true ks vs' key A.2 = jY ks vs' key A.2 := rfl
    rw [hm]
    have hpf := zOK ks vs vs' key B.2 A.2
    by_cases hb : B.1.bad = true
    ·rw [hb] at v1
     have e1 := zEZ (s := s) (c := 125) (many := many + 1) v1
     rw [qMY hb, if_pos rfl]
     refine ⟨?_, fun h' => by simp only at h'; rw [hb] at h'; cases h'⟩
     simp only; rw [hb]
     split
     ·exact e1
     ·exact qEY e1
    ·have hb' : B.1.bad = false := by simpa using hb
     obtain ⟨v3, v4⟩ := v2 hb'
     obtain ⟨s1, s2, s3⟩ := v3.beh (c := 125) (by decide) (many + 1)
     have sb := qXE (c := 125) (many := many + 1) (st := B.1)
     generalize qBZ s 125 (many + 1) A.1 = X at *
     generalize uH 125 (many + 1) B.1 = Y at *
     rw [s1]
     by_cases hy : Y.1 = true
     ·rw [if_pos hy, if_pos hy]
      refine ⟨s2, fun h' => ⟨s3 h', hpf.symm, fun hg => ?_⟩⟩
      obtain ⟨w1, w2⟩ := v4 (sb hg)
      exact ⟨ybig w1, by simp only; rw [hv (ybig w1), w2]⟩
     ·rw [if_neg hy, if_neg hy]
      by_cases hyb : Y.2.bad = true
      ·rw [hyb] at s2
       exact ⟨by rw [qEY s2, zDY hyb], fun h' => by rw [zDY hyb] at h'; cases h'⟩
      ·have g2 := s3 (by simpa using hyb)
       rw [← hpf]
       obtain ⟨k1, k2⟩ := ih3 X.2 Y.2 d (many + 1) (jY ks vs key B.2).1 (jY ks vs key B.2).2 (jY ks vs' key A.2).2 g2 (fun hg => by
        obtain ⟨w1, w2⟩ := v4 (sb hg)
        rw [hv (ybig w1), w2])
       refine ⟨k1, fun h' => ?_⟩
       obtain ⟨k3, k4, k5⟩ := k2 h'
       refine ⟨k3, k4, fun hg => ?_⟩
       obtain ⟨k6, k7⟩ := k5 hg
       exact ⟨ybig (v4 (sb k6)).1, k7⟩
end Go.Proofs.YtdojfdaglbphlaaGreatDoor
