import Derived.Test.YtdjjmppnnkkloaaGreatDoorM4
import Derived.Test.YtdjjmppnnkkloaaGreatDoorM3
namespace Go.Proofs.YtdjjmppnnkkloaaGreatDoor
open Sy Go
set_option maxRecDepth 100000
set_option linter.unusedSimpArgs false
set_option linter.unusedVariables false

/-- A decimal. -/
structure Dc where
  neg : Bool
  digits : List UInt8
  scale : Int
  deriving DecidableEq
@[simp] def Dc.enc (d : Dc) : PD := .agg [.bool d.neg, .str d.digits, .int .i64 d.scale]
/-- A value. -/
inductive Val where
  | mk (kind mask : Int) (num : Dc) (text : List UInt8) (keys : List (List UInt8)) (kids : List Val) (code : Int)
def Val.kind : Val → Int
  | .mk k _ _ _ _ _ _ => k
def Val.mask : Val → Int
  | .mk _ m _ _ _ _ _ => m
def Val.num : Val → Dc
  | .mk _ _ n _ _ _ _ => n
def Val.text : Val → List UInt8
  | .mk _ _ _ t _ _ _ => t
def Val.keys : Val → List (List UInt8)
  | .mk _ _ _ _ ks _ _ => ks
def Val.kids : Val → List Val
  | .mk _ _ _ _ _ vs _ => vs
def Val.code : Val → Int
  | .mk _ _ _ _ _ _ c => c
@[simp] theorem Val.kind_mk (k m : Int) (n : Dc) (t : List UInt8) (ks : List (List UInt8)) (vs : List Val) (c : Int) : (Val.mk k m n t ks vs c).kind = k := rfl
@[simp] theorem Val.mask_mk (k m : Int) (n : Dc) (t : List UInt8) (ks : List (List UInt8)) (vs : List Val) (c : Int) : (Val.mk k m n t ks vs c).mask = m := rfl
@[simp] theorem Val.num_mk (k m : Int) (n : Dc) (t : List UInt8) (ks : List (List UInt8)) (vs : List Val) (c : Int) : (Val.mk k m n t ks vs c).num = n := rfl
@[simp] theorem Val.text_mk (k m : Int) (n : Dc) (t : List UInt8) (ks : List (List UInt8)) (vs : List Val) (c : Int) : (Val.mk k m n t ks vs c).text = t := rfl
@[simp] theorem Val.keys_mk (k m : Int) (n : Dc) (t : List UInt8) (ks : List (List UInt8)) (vs : List Val) (c : Int) : (Val.mk k m n t ks vs c).keys = ks := rfl
@[simp] theorem Val.kids_mk (k m : Int) (n : Dc) (t : List UInt8) (ks : List (List UInt8)) (vs : List Val) (c : Int) : (Val.mk k m n t ks vs c).kids = vs := rfl
@[simp] theorem Val.code_mk (k m : Int) (n : Dc) (t : List UInt8) (ks : List (List UInt8)) (vs : List Val) (c : Int) : (Val.mk k m n t ks vs c).code = c := rfl
mutual
def Val.enc : Val → PD
  | .mk k m n t ks vs c => .agg [.int .i64 k, .int .u64 m, .bool n.neg, .str n.digits, .int .i64 n.scale, .str t, .sl 1 (ks.map PD.str), .sl 9 (Val.encL vs), .int .i64 c]
def Val.encL : List Val → List PD
  | [] => []
  | v :: vs => Val.enc v :: Val.encL vs
end
def dc0 : Dc := ⟨false, [], 0⟩
def nullV : Val := .mk 1 0 dc0 [] [] [] 0
theorem Val.encL_map : ∀ l, Val.encL l = l.map Val.enc
  | [] => by simp only [Val.encL, List.map_nil]
  | v :: vs => by simp only [Val.encL, List.map_cons, Val.encL_map vs]
@[simp] theorem Val.enc_def (v : Val) : v.enc = .agg [.int .i64 v.kind, .int .u64 v.mask, .bool v.num.neg, .str v.num.digits, .int .i64 v.num.scale, .str v.text, .sl 1 (v.keys.map PD.str), .sl 9 (v.kids.map Val.enc), .int .i64 v.code] := by
  cases v; simp only [Val.enc, Val.encL_map, Val.kind, Val.mask, Val.num, Val.text, Val.keys, Val.kids, Val.code]
mutual
def Val.sz : Val → Nat
  | .mk _ _ _ _ _ vs _ => 1 + Val.szL vs
def Val.szL : List Val → Nat
  | [] => 0
  | v :: vs => Val.sz v + Val.szL vs
end
theorem Val.szL_mem {k : Val} : ∀ {l : List Val}, k ∈ l → Val.sz k ≤ Val.szL l
  | v :: vs, h => by
    simp only [Val.szL]
    rcases List.mem_cons.1 h with rfl | h
    · omega
    · have := Val.szL_mem h; omega
theorem Val.sz_kid {v k : Val} (h : k ∈ v.kids) : Val.sz k < Val.sz v := by
  cases v; simp only [Val.kids] at h; simp only [Val.sz]; have := Val.szL_mem h; omega
theorem Val.induct {p : Val → Prop} (h : ∀ v, (∀ k ∈ v.kids, p k) → p v) (v : Val) : p v := by
  have key : ∀ n v, Val.sz v = n → p v := by
    intro n
    induction n using Nat.strongRecOn with
    | _ n ih => intro v hv; exact h v fun k hk => ih _ (hv ▸ Val.sz_kid hk) k rfl
  exact key _ v rfl
theorem Val.ext {a b : Val} (h1 : a.kind = b.kind) (h2 : a.mask = b.mask) (h3 : a.num = b.num) (h4 : a.text = b.text) (h5 : a.keys = b.keys) (h6 : a.kids = b.kids) (h7 : a.code = b.code) : a = b := by
  cases a; cases b; simp_all [Val.kind, Val.mask, Val.num, Val.text, Val.keys, Val.kids, Val.code]
theorem Dc.ext' {a b : Dc} (h1 : a.neg = b.neg) (h2 : a.digits = b.digits) (h3 : a.scale = b.scale) : a = b := by cases a; cases b; simp_all
end Go.Proofs.YtdjjmppnnkkloaaGreatDoor
