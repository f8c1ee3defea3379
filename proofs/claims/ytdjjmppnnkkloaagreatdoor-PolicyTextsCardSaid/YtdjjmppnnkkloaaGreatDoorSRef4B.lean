import Derived.Test.YtdjjmppnnkkloaaGreatDoorSRef4A
import Derived.Test.YtdjjmppnnkkloaaGreatDoorM3
namespace Go.Proofs.YtdjjmppnnkkloaaGreatDoor
open Sy Go
set_option maxRecDepth 100000
set_option maxHeartbeats 4000000
set_option linter.unusedSimpArgs false
set_option linter.unusedVariables false
variable {G : Glob}

structure Item where
  kind : Int
  many : Int
  mask : Int
  num : List UInt8
  text : List UInt8
  keys : List (List UInt8)
@[simp] def Item.enc (x : Item) : PD := .agg [.int .i64 x.kind, .int .i64 x.many, .int .u64 x.mask, .str x.num, .str x.text, .sl 1 (x.keys.map PD.str)]
def low3 (a : Int) : Nat := (a % 2 ^ 64).toNat &&& 7
theorem low3_lt (a : Int) : low3 a < 8 := Nat.and_lt_two_pow _ (n := 3) (by decide)
theorem low3_wrap (a : Int) : IntKind.i64.wrap (((a % 2 ^ IntKind.i64.bits).toNat &&& 7 % 2 ^ IntKind.i64.bits : Nat) : Int) = (low3 a : Int) := by
  have h := low3_lt a
  have e : ((a % 2 ^ IntKind.i64.bits).toNat &&& 7 % 2 ^ IntKind.i64.bits : Nat) = low3 a := rfl
  rw [e]
  simp [IntKind.wrap, IntKind.bits, IntKind.signed]; omega
def numM (s : List UInt8) : Dc := if (ParseM (shortM s)).2 = 0 then (ParseM (shortM s)).1 else ⟨false, [55], 0⟩
def kidsN (alone : List Val) (x : Item) : Nat := min (low3 x.many) alone.length
def itemKids (alone : List Val) (x : Item) : List Val := if low3 x.kind = 5 ∨ low3 x.kind = 6 then alone.drop (alone.length - kidsN alone x) else []
def itemRest (alone : List Val) (x : Item) : List Val := if low3 x.kind = 5 ∨ low3 x.kind = 6 then alone.take (alone.length - kidsN alone x) else alone
def itemV (alone : List Val) (x : Item) : Val :=
  .mk (low3 x.kind + 1) x.mask (if low3 x.kind = 3 then numM x.num else dc0) (if low3 x.kind = 4 then wordM x.text else [])
    (if low3 x.kind = 6 then namedM x.keys (itemKids alone x).length else []) (itemKids alone x) (if low3 x.kind = 7 then 40 else 0)
def itemM (alone : List Val) (x : Item) : List Val := itemRest alone x ++ [itemV alone x]
def aloneM (l : List Item) : List Val := (l.take 80).foldl itemM []
def builtM (l : List Item) : Val := (aloneM l).getLastD nullV
def aloneK (l : List Item) (k : Nat) : List Val := (l.take k).foldl itemM []
theorem aloneK_succ {l : List Item} {k : Nat} {x : Item} (h : l[k]? = some x) : aloneK l (k + 1) = itemM (aloneK l k) x := by
  unfold aloneK; rw [List.take_add_one, h]; simp
theorem itemM_len (a : List Val) (x : Item) : (itemM a x).length ≤ a.length + 1 := by
  unfold itemM itemRest; split <;> simp <;> omega
theorem aloneK_len (l : List Item) : ∀ k, (aloneK l k).length ≤ k
  | 0 => by simp [aloneK]
  | k + 1 => by
    cases h : l[k]? with
    | none =>
      have h1 : aloneK l (k + 1) = aloneK l k := by unfold aloneK; rw [List.take_add_one, h]; simp
      have := aloneK_len l k
      rw [h1]; omega
    | some x =>
      rw [aloneK_succ h]
      have := itemM_len (aloneK l k) x
      have := aloneK_len l k
      omega
theorem Built_ev (l : List Item) (hl : ∀ x ∈ l, x.keys.length ≤ 140737488351232) : AFn Tryz.prog G 18 [.sl 6 (l.map Item.enc)] ((builtM l).enc) := by
  refine AFn.introU tok Tryz.func18 (by kernel_rfl) rfl rfl ?_
  simp only [Tryz.f18, enumA, List.map_cons, List.map_nil]
  refine rgn [] [[]] ?_
  refine op1 tok ?_
  refine runEnd ?_
  refine rgn [] [[], [0, 2, 3]] ?_
  iterate 2 refine op1 tok ?_
  refine runEnd ?_
  refine AW.seq ?_
  refine rgn [] [[]] ?_
  refine op1 tok ?_
  refine runEnd ?_
  refine AW.block ?_
  refine AW.loop (α := Nat) (fun k => k ≤ l.length ∧ k ≤ 80) (fun k => ⟨upds 121 [(0, .p (.sl 6 (l.map Item.enc))), (2, .ptr 2 0), (3, .ms 11), (4, .p (.int .i64 k))], [], [(11, .row 42 9 ((aloneK l k).map Val.enc)), (2, .vars 42 [.p (.int .i64 0), .p (.int .u64 0), .p (.bool false), .p (.str []), .p (.int .i64 0), .p (.str []), .nilsl, .nilsl, .p (.int .i64 0)])], 0⟩) (fun k => l.length - k) (0) ⟨by omega, by omega⟩ ⟨upds_le (by simp), rfl, by simp [aloneK], by simp⟩ ?_
  rintro k ⟨hk, hk8⟩
  have hal := aloneK_len l k
  generalize haa : aloneK l k = alone at *
  refine AW.seq ?_
  refine rgn [] [[], [], [], [], [0, 2, 3, 4, 16], [], [], [0, 2, 3, 4, 19]] ?_
  iterate 5 refine op1 tok ?_
  iterate 2 refine op2 tok ?_
  refine op1 tok ?_
  refine runEnd ?_
  refine cnd ?_ ?_
  · intro h19
    try simp at h19
    obtain ⟨x, hx⟩ : ∃ x, l[k]? = some x := ⟨l[k], by simp [h19.1]⟩
    have hsh := short_ev (G := G) x.num
    have hpa := Parse_ev (G := G) (shortM x.num) (by have := shortM_len x.num; omega)
    have hwo := word_ev (G := G) x.text
    have h3k := low3_lt x.kind
    have hxl := hl x (List.mem_of_getElem? hx)
    refine AW.skip ?_
    refine AW.seq ?_
    refine AW.block ?_
    refine rgn [x.enc] [[], [], [], [], [0, 2, 3, 4, 26], [], [0, 2, 3, 4, 5]] ?_
    iterate 7 refine op1 tok ?_ (h := by intro C; conv => lhs; simp [low3_wrap]) (hv := by first | with_reducible exact True.intro | (simp [hx]; done) | omega | simp | (simp; omega) | (simp +contextual; omega))
    refine runEnd ?_
    refine rgn [x.enc] [[], [], [], [], [0, 2, 3, 4, 29, 32], [], [], [0, 2, 3, 4, 35], [], [0, 2, 3, 4, 6]] ?_
    iterate 10 refine op1 tok ?_ (hv := by first | with_reducible exact True.intro | (simp [hx]; done) | omega | simp | (simp; omega) | (simp +contextual; omega))
    refine runEnd ?_
    refine AW.join (α := Unit) (fun _ => True) (fun a => ⟨upds 121 [(0, .p (.sl 6 (l.map Item.enc))), (2, .ptr 2 0), (3, .ms 11), (4, .p (.int .i64 k)), (6, .ptr 6 0)], [], [(11, .row 42 9 ((itemRest alone x).map Val.enc)), (2, .vars 42 [.p (.int .i64 0), .p (.int .u64 0), .p (.bool false), .p (.str []), .p (.int .i64 0), .p (.str []), .nilsl, .nilsl, .p (.int .i64 0)]), (6, .vars 42 [.p (.int .i64 (low3 x.kind + 1)), .p (.int .u64 x.mask), .p (.bool (itemV alone x).num.neg), .p (.str (itemV alone x).num.digits), .p (.int .i64 (itemV alone x).num.scale), .p (.str (itemV alone x).text), .p (.sl 1 []), .p (.sl 9 ((itemKids alone x).map Val.enc)), .p (.int .i64 (itemV alone x).code)])], 0⟩) ?_ ?_
    ·
      refine AW.seqRegionO [] ?_
      refine AOpsO.fill 6 [none, none, none, none, none, none, some 1, some 9] (by conv => lhs; simp) ?_
      refine AOpsO.run [[], [0, 2, 3, 4, 6, 37]] ?_
      iterate 2 refine op1 tok ?_
      refine runEnd ?_
      refine AW.block ?_
      refine rgn [] [[], [0, 2, 3, 4, 6, 37, 38]] ?_
      iterate 2 refine op1 tok ?_
      refine runEnd ?_
      refine cnd ?_ ?_
      · intro h38
        try simp at h38
        have hq : low3 x.kind = 3 := by omega
        refine rgn [x.enc, .nilp, .str (shortM x.num), .nilp, .tup [(ParseM (shortM x.num)).1.enc, .int .i64 (ParseM (shortM x.num)).2]] [[], [], [], [], [0, 2, 3, 4, 6, 45], [], [], [], [], [0, 2, 3, 4, 6, 48, 49], [], [], [0, 2, 3, 4, 6, 7, 8]] ?_
        iterate 13 refine op1 tok ?_ (hv := by first | with_reducible exact True.intro | (first | exact hsh | exact hpa | simp [hx]; done) | omega | simp | (simp; omega) | (simp +contextual; omega))
        refine runEnd ?_
        refine AW.seq ?_
        refine rgn [] [[], [0, 2, 3, 4, 6, 7, 51]] ?_
        iterate 2 refine op1 tok ?_
        refine runEnd ?_
        refine cnd ?_ ?_
        · intro h51
          try simp at h51
          refine rgz [] [[], [0, 2, 3, 4, 6, 7]] ?_
          iterate 2 refine op1 tok ?_
          refine runEnd ?_
          refine rgz [] [[], [], [0, 2, 3, 4, 6]] ?_
          iterate 3 refine op1 tok ?_
          refine runEnd ?_
          exact ⟨(), trivial, upds_le (by simp [itemRest, itemV, itemKids, numM, dc0, Val.num, Val.text, Val.code, Val.keys, Val.kids, hq, h51]), rfl, by simp [itemRest, itemV, itemKids, numM, dc0, Val.num, Val.text, Val.code, Val.keys, Val.kids, hq, h51], by simp [itemRest, itemV, itemKids, numM, dc0, Val.num, Val.text, Val.code, Val.keys, Val.kids, hq, h51]⟩
        · intro h51
          try simp at h51
          refine AW.skip ?_
          refine rgz [] [[], [], [0, 2, 3, 4, 6]] ?_
          iterate 3 refine op1 tok ?_
          refine runEnd ?_
          exact ⟨(), trivial, upds_le (by simp [itemRest, itemV, itemKids, numM, dc0, Val.num, Val.text, Val.code, Val.keys, Val.kids, hq, h51]), rfl, by simp [itemRest, itemV, itemKids, numM, dc0, Val.num, Val.text, Val.code, Val.keys, Val.kids, hq, h51], by simp [itemRest, itemV, itemKids, numM, dc0, Val.num, Val.text, Val.code, Val.keys, Val.kids, hq, h51]⟩
      · intro h38
        try simp at h38
        refine rgn [] [[], [0, 2, 3, 4, 6, 37, 55]] ?_
        iterate 2 refine op1 tok ?_
        refine runEnd ?_
        refine cnd ?_ ?_
        · intro h55
          try simp at h55
          have hq : low3 x.kind = 4 := by omega
          refine rgz [x.enc, .nilp, .str (wordM x.text)] [[], [], [], [], [0, 2, 3, 4, 6, 61], [], [], [0, 2, 3, 4, 6]] ?_
          iterate 8 refine op1 tok ?_ (hv := by first | with_reducible exact True.intro | (first | exact hwo | simp [hx]; done) | omega | simp | (simp; omega) | (simp +contextual; omega))
          refine runEnd ?_
          exact ⟨(), trivial, upds_le (by simp [itemRest, itemV, itemKids, numM, dc0, Val.num, Val.text, Val.code, Val.keys, Val.kids, hq]), rfl, by simp [itemRest, itemV, itemKids, numM, dc0, Val.num, Val.text, Val.code, Val.keys, Val.kids, hq], by simp [itemRest, itemV, itemKids, numM, dc0, Val.num, Val.text, Val.code, Val.keys, Val.kids, hq]⟩
        · intro h55
          try simp at h55
          refine rgn [] [[], [0, 2, 3, 4, 6, 37, 64]] ?_
          iterate 2 refine op1 tok ?_
          refine runEnd ?_
          refine cnd ?_ ?_
          · intro h64
            try simp at h64
            have hq : low3 x.kind = 7 := by omega
            refine rgz [] [[], [0, 2, 3, 4, 6]] ?_
            iterate 2 refine op1 tok ?_
            refine runEnd ?_
            exact ⟨(), trivial, upds_le (by simp [itemRest, itemV, itemKids, numM, dc0, Val.num, Val.text, Val.code, Val.keys, Val.kids, hq]), rfl, by simp [itemRest, itemV, itemKids, numM, dc0, Val.num, Val.text, Val.code, Val.keys, Val.kids, hq], by simp [itemRest, itemV, itemKids, numM, dc0, Val.num, Val.text, Val.code, Val.keys, Val.kids, hq]⟩
          · intro h64
            try simp at h64
            refine AW.join (α := Unit) (fun _ => True) (fun a => ⟨upds 121 [(0, .p (.sl 6 (l.map Item.enc))), (2, .ptr 2 0), (3, .ms 11), (4, .p (.int .i64 k)), (6, .ptr 6 0), (67, .p (.bool (decide (low3 x.kind = 5 ∨ low3 x.kind = 6))))], [], [(11, .row 42 9 (alone.map Val.enc)), (2, .vars 42 [.p (.int .i64 0), .p (.int .u64 0), .p (.bool false), .p (.str []), .p (.int .i64 0), .p (.str []), .nilsl, .nilsl, .p (.int .i64 0)]), (6, .vars 42 [.p (.int .i64 (low3 x.kind + 1)), .p (.int .u64 x.mask), .p (.bool false), .p (.str []), .p (.int .i64 0), .p (.str []), .p (.sl 1 []), .p (.sl 9 []), .p (.int .i64 0)])], 0⟩) ?_ ?_
            ·
              refine rgn [] [[], [0, 2, 3, 4, 6, 37, 67]] ?_
              iterate 2 refine op1 tok ?_
              refine runEnd ?_
              refine cnd ?_ ?_
              · intro h67
                try simp at h67
                refine AW.skip ?_
                exact ⟨(), trivial, upds_le (by simp [show (low3 x.kind = 5 ∨ low3 x.kind = 6) = True from eq_true (by omega), h67]), rfl, by simp [show (low3 x.kind = 5 ∨ low3 x.kind = 6) = True from eq_true (by omega), h67], by simp [show (low3 x.kind = 5 ∨ low3 x.kind = 6) = True from eq_true (by omega), h67]⟩
              · intro h67
                try simp at h67
                refine rgz [] [[], [0, 2, 3, 4, 6, 67]] ?_
                iterate 2 refine op1 tok ?_
                refine runEnd ?_
                exact ⟨(), trivial, upds_le (by simp [show (low3 x.kind = 5 ∨ low3 x.kind = 6) = (low3 x.kind = 6) from propext (by omega), show ((low3 x.kind : Int) + 1 = 7) = (low3 x.kind = 6) from propext (by omega)]), rfl, by simp [show (low3 x.kind = 5 ∨ low3 x.kind = 6) = (low3 x.kind = 6) from propext (by omega), show ((low3 x.kind : Int) + 1 = 7) = (low3 x.kind = 6) from propext (by omega)], by simp [show (low3 x.kind = 5 ∨ low3 x.kind = 6) = (low3 x.kind = 6) from propext (by omega), show ((low3 x.kind : Int) + 1 = 7) = (low3 x.kind = 6) from propext (by omega)]⟩
            ·
              rintro a hI
              refine cnd ?_ ?_
              · intro h67
                try simp at h67
                have hmany := low3_lt x.many
                have hkn : ((alone.length : Int) - if alone.length < low3 x.many then (alone.length : Int) else (low3 x.many : Int)).toNat = alone.length - kidsN alone x := by unfold kidsN; split <;> omega
                have hq3 : ¬ low3 x.kind = 3 := by omega
                have hq4 : ¬ low3 x.kind = 4 := by omega
                have hq7 : ¬ low3 x.kind = 7 := by omega
                refine rgn [x.enc] [[], [], [], [], [0, 2, 3, 4, 6, 74], [], [], [], [0, 2, 3, 4, 6, 78], [0, 2, 3, 4, 6, 9]] ?_
                iterate 10 refine op1 tok ?_ (h := by intro C; conv => lhs; simp [low3_wrap]) (hv := by first | with_reducible exact True.intro | (simp [hx]; done) | omega | simp | (simp; omega) | (simp +contextual; omega))
                refine runEnd ?_
                refine rgn [] [[], [], [], [0, 2, 3, 4, 6, 82], [0, 2, 3, 4, 6, 10]] ?_
                iterate 5 refine op1 tok ?_
                refine runEnd ?_
                refine AW.seqRegionO [] ?_
                refine AOpsO.freeze 11 (by conv => lhs; simp) ?_
                refine AOpsO.run [[], [], [], [], [0, 2, 3, 4, 6, 10, 87], [], [0, 2, 3, 4, 6, 10]] ?_
                iterate 7 refine op1 tok ?_
                refine runEnd ?_
                refine rgz [] [[], [], [], [0, 2, 4, 6, 89, 92], []] ?_
                iterate 5 refine op1 tok ?_
                refine runOff ?_
                refine AOpsO.take 89 11 (by conv => lhs; simp) ?_
                refine AOpsO.freeze 83 (by conv => lhs; simp) ?_
                refine AOpsO.run [[0, 2, 3, 4, 6]] ?_
                refine op1 tok ?_
                refine runEnd ?_
                exact ⟨(), trivial, upds_le (by simp [itemRest, itemV, itemKids, numM, dc0, Val.num, Val.text, Val.code, Val.keys, Val.kids, hq3, hq4, hq7, hkn, h67, show List.take alone.length (alone.map Val.enc) = alone.map Val.enc from List.take_of_length_le (by simp)]), rfl, by simp [itemRest, itemV, itemKids, numM, dc0, Val.num, Val.text, Val.code, Val.keys, Val.kids, hq3, hq4, hq7, hkn, h67, show List.take alone.length (alone.map Val.enc) = alone.map Val.enc from List.take_of_length_le (by simp)], by simp [itemRest, itemV, itemKids, numM, dc0, Val.num, Val.text, Val.code, Val.keys, Val.kids, hq3, hq4, hq7, hkn, h67, show List.take alone.length (alone.map Val.enc) = alone.map Val.enc from List.take_of_length_le (by simp)]⟩
              · intro h67
                try simp at h67
                have hq3 : ¬ low3 x.kind = 3 := by omega
                have hq4 : ¬ low3 x.kind = 4 := by omega
                have hq7 : ¬ low3 x.kind = 7 := by omega
                refine AW.skip ?_
                exact ⟨(), trivial, upds_le (by simp [itemRest, itemV, itemKids, numM, dc0, Val.num, Val.text, Val.code, Val.keys, Val.kids, hq3, hq4, hq7, h67]), rfl, by simp [itemRest, itemV, itemKids, numM, dc0, Val.num, Val.text, Val.code, Val.keys, Val.kids, hq3, hq4, hq7, h67], by simp [itemRest, itemV, itemKids, numM, dc0, Val.num, Val.text, Val.code, Val.keys, Val.kids, hq3, hq4, hq7, h67]⟩
    ·
      rintro a hI
      refine AW.join (α := Unit) (fun _ => True) (fun a => ⟨upds 121 [(0, .p (.sl 6 (l.map Item.enc))), (2, .ptr 2 0), (3, .ms 11), (4, .p (.int .i64 k)), (6, .ptr 6 0)], [], [(11, .row 42 9 ((itemRest alone x).map Val.enc)), (2, .vars 42 [.p (.int .i64 0), .p (.int .u64 0), .p (.bool false), .p (.str []), .p (.int .i64 0), .p (.str []), .nilsl, .nilsl, .p (.int .i64 0)]), (6, .vars 42 [.p (.int .i64 (itemV alone x).kind), .p (.int .u64 (itemV alone x).mask), .p (.bool (itemV alone x).num.neg), .p (.str (itemV alone x).num.digits), .p (.int .i64 (itemV alone x).num.scale), .p (.str (itemV alone x).text), .p (.sl 1 ((itemV alone x).keys.map PD.str)), .p (.sl 9 ((itemV alone x).kids.map Val.enc)), .p (.int .i64 (itemV alone x).code)])], 0⟩) ?_ ?_
      ·
        refine rgn [] [[], [], [0, 2, 3, 4, 6, 96]] ?_
        iterate 3 refine op1 tok ?_
        refine runEnd ?_
        refine cnd ?_ ?_
        · intro h96
          try simp at h96
          have hq : low3 x.kind = 6 := by omega
          have hkl : (itemKids alone x).length ≤ 100000 := by unfold itemKids; split <;> simp <;> omega
          have hna := named_ev (G := G) x.keys (itemKids alone x).length hxl hkl
          refine AW.runDrawK tok mixed [0, 2, 3, 4, 6] 9 [[0], [4], [97, 98], [99], [100], [6], [102], [103], [101, 104]] [x.enc, .nilp, .sl 1 ((namedM x.keys (itemKids alone x).length).map PD.str)] [] (by kernel_rfl) (by intro C; conv => lhs; simp) (by first | (simp [hx]; done) | (simp [hx]; exact hna)) (by simp [Sm.sum, Sm.foot, Sm.tch, Sm.refs]; kernel_rfl) (by intro C; conv => lhs; simp) (by first | with_reducible exact True.intro | omega | simp | (simp; omega) | (simp +contextual; omega)) ?_
          exact ⟨(), trivial, upds_le (by simp [itemV, Val.kind, Val.mask, Val.keys, Val.kids, hq]), rfl, by simp [itemV, Val.kind, Val.mask, Val.keys, Val.kids, hq], by simp [itemV, Val.kind, Val.mask, Val.keys, Val.kids, hq]⟩
        · intro h96
          try simp at h96
          have hq : ¬ low3 x.kind = 6 := by omega
          refine AW.skip ?_
          exact ⟨(), trivial, upds_le (by simp [itemV, Val.kind, Val.mask, Val.keys, Val.kids, hq]), rfl, by simp [itemV, Val.kind, Val.mask, Val.keys, Val.kids, hq], by simp [itemV, Val.kind, Val.mask, Val.keys, Val.kids, hq]⟩
      ·
        rintro a hI
        have hrl : (itemRest alone x).length ≤ alone.length := by unfold itemRest; split <;> simp <;> omega
        refine rgz [(itemV alone x).enc] [[], [], [], [0, 2, 4, 110], [0, 2, 3, 4]] ?_
        iterate 5 refine op1 tok ?_ (hv := by first | with_reducible exact True.intro | (first | (simp; done) | (simp; omega) | omega; done) | omega | simp | (simp; omega) | (simp +contextual; omega))
        refine runEnd ?_
        refine rgz [] [[], [], [0, 2, 3, 4]] ?_
        iterate 3 refine op1 tok ?_
        refine runEnd ?_
        exact ⟨k + 1, ⟨by omega, by omega⟩, by omega, upds_le (by simp [haa, aloneK_succ hx, itemM]), rfl, by simp [haa, aloneK_succ hx, itemM], by simp [haa, aloneK_succ hx, itemM]⟩
  · intro h19
    try simp at h19
    have hfin : aloneM l = alone := by
      rw [← haa]; unfold aloneM aloneK
      congr 1
      by_cases h : k = 80
      · rw [h]
      · have hkl : k = l.length := by omega
        rw [hkl, List.take_length, List.take_of_length_le (by omega)]
    refine AW.exit ?_
    simp
    refine AW.seq ?_
    refine rgn [] [[], [], [2, 3, 113]] ?_
    iterate 3 refine op1 tok ?_
    refine runEnd ?_
    refine cnd ?_ ?_
    · intro h113
      try simp at h113
      have hB : builtM l = nullV := by simp [builtM, hfin, h113]
      refine rgn [] [[], [2]] ?_
      iterate 2 refine op1 tok ?_
      refine runEnd ?_
      exact AW.ret ⟨.inr rfl, _, _, by (conv => lhs; simp), trivial, by simp [hB, nullV, dc0, Val.kind, Val.mask, Val.num, Val.text, Val.keys, Val.kids, Val.code]⟩
    · intro h113
      try simp at h113
      have hlast : alone[alone.length - 1]? = some (builtM l) := by
        rw [builtM, hfin, List.getLastD_eq_getLast?, List.getLast?_eq_getElem?]
        have : alone.length - 1 < alone.length := by
          have : alone ≠ [] := h113
          have := List.length_pos_iff.2 this; omega
        simp [this]
      have hpos : 0 < alone.length := List.length_pos_iff.2 h113
      refine AW.skip ?_
      refine rgn [(builtM l).enc] [[], [], [], [], [2, 119], [], [2]] ?_
      iterate 7 refine op1 tok ?_ (hv := by first | with_reducible exact True.intro | (simp [hlast]; done) | omega | simp | (simp; omega) | (simp +contextual; omega))
      refine runEnd ?_
      exact AW.ret ⟨.inr rfl, _, _, by (conv => lhs; simp), trivial, by simp⟩
end Go.Proofs.YtdjjmppnnkkloaaGreatDoor
