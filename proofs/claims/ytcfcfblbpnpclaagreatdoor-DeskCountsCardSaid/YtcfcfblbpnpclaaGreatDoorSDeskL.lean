import Derived.Test.YtcfcfblbpnpclaaGreatDoorSCore40
import Derived.Test.YtcfcfblbpnpclaaGreatDoorM4
import Derived.Lib.ItoaLen
import Derived.Lib.Join
namespace Go.Proofs.YtcfcfblbpnpclaaGreatDoor
open Sy Go
set_option linter.unusedSimpArgs false
set_option linter.unusedVariables false
theorem qAB {α:Type} {p:List α→Prop} (nil:p []) (append_singleton:∀ l x,p l→p (l++[x])) (l:List α):p l:=by
 have key:∀ l:List α,p l.reverse:=by
  intro l
  induction l with
  | nil=>exact nil
  | cons a l ih=>rw [List.reverse_cons]; exact append_singleton _ _ ih
 have:=key l.reverse
 rwa [List.reverse_reverse] at this
structure Outc where
 code:Int
 docs:Int
 outs:Int
 charge:Int
 errs:List Int
 out:List UInt8
 log:List UInt8
def byD (b:UInt8):PD := .int .u8 b.toNat
def inD (n:Int):PD := .int .i64 n
def Outc.enc (o:Outc):PD := .agg [.int .i64 o.code,.int .i64 o.docs,.int .i64 o.outs,.int .i64 o.charge,.sl 1 (o.errs.map inD),.sl 1 (o.out.map byD),.sl 1 (o.log.map byD)]
theorem Outc.enc_def (o:Outc):o.enc = .agg [.int .i64 o.code,.int .i64 o.docs,.int .i64 o.outs,.int .i64 o.charge,.sl 1 (o.errs.map inD),.sl 1 (o.out.map byD),.sl 1 (o.log.map byD)]:=rfl
def qBV (r:Nat):Nat:=if r % 2=1 then (r / 2) ^^^ 3988292384 else r / 2
def uY:Nat→Nat→Nat
 | 0,r=>r
 | k+1,r=>uY k (qBV r)
def qFI (r:Nat):List UInt8→Nat
 | []=>r
 | b::l=>qFI (uY 8 (r ^^^ b.toNat)) l
def jJ (l:List UInt8):Nat:=qFI 4294967295 l ^^^ 4294967295
theorem qDU {r:Nat} (h:r<4294967296):qBV r<4294967296:=by
 unfold qBV
 split
 ·exact Nat.xor_lt_two_pow (n:=32) (by omega) (by decide)
 omega
theorem kK {a b:Nat} (ha:a<4294967296) (hb:b<4294967296):a ^^^ b<4294967296:=Nat.xor_lt_two_pow (n:=32) ha hb
theorem qGG:∀ (l:List UInt8) {r:Nat},r<4294967296→qFI r l<4294967296
 | [],_,h=>h
 | b::l,r,h=>by
  have key:∀ (k r:Nat),r<4294967296→uY k r<4294967296:=by
   intro k
   induction k with
   | zero=>exact fun r h=>h
   | succ k ih=>exact fun r h=>ih _ (qDU h)
  exact qGG l (key 8 _ (kK h (by have:=b.toNat_lt; omega)))
theorem qCU (l:List UInt8):jJ l<4294967296:=kK (qGG l (by decide)) (by decide)
def xF (l:List Int):List UInt8:=l.flatMap fun n=>32::Lib.itoa n
def zQ (w:List UInt8) (l:List Int):List UInt8:=w++xF l++[10]
theorem qCJ (w:List UInt8):∀ l:List Int,Lib.join (w::l.map Lib.itoa) [32]=w++xF l
 | []=>by simp [Lib.join,xF]
 | n::l=>by
  have ih:=qCJ (Lib.itoa n) l
  have e:Lib.join (w::Lib.itoa n::l.map Lib.itoa) [32]=w++[32]++Lib.join (Lib.itoa n::l.map Lib.itoa) [32]:=by simp [Lib.join,List.intercalate,List.intersperse]
  rw [List.map_cons,e,ih]
  simp [xF]
def qHS (o:Outc):List UInt8:=zQ [99,111,100,101] [o.code]++zQ [100,111,110,101] [o.docs,o.outs,o.charge]++zQ [101,114,114,111,114,115] o.errs++zQ [111,117,116] [o.out.length,jJ o.out]++zQ [108,111,103] [o.log.length,jJ o.log]
def wL (a b:Int):Int:=if a<b then b else a
def qL (x:Int × Int × Int) (n:Int):Int × Int × Int:=if n<0∨1099511627776-x.2.1<n then x else (x.1+1,x.2.1+n,wL x.2.2 n)
def DOK (x:Int × Int × Int) (N:Int):Prop:=0≤x.1∧x.1≤N∧0≤x.2.1∧x.2.1≤1099511627776
theorem DOK.mono {x:Int × Int × Int} {N N':Int} (h:DOK x N) (hn:N≤N'):DOK x N':=⟨h.1,Int.le_trans h.2.1 hn,h.2.2.1,h.2.2.2⟩
theorem DOK.note {x:Int × Int × Int} {N:Int} (h:DOK x N) (n:Int):DOK (qL x n) (N+1):=by
 obtain ⟨h1,h2,h3,h4⟩:=h
 unfold qL
 split
 ·exact ⟨h1,by omega,h3,h4⟩
 rename_i hh
 exact ⟨by simp only; omega,by simp only; omega,by simp only; omega,by simp only; omega⟩
def jL (o:Outc):Nat→Int
 | 0=>o.docs
 | 1=>o.outs
 | 2=>o.charge
 | 3=>o.out.length
 | _=>o.log.length
def qH (k:Nat) (l:List Outc):Int × Int × Int:=l.foldl (fun x o=>qL x (jL o k)) (0,0,0)
theorem xR (k:Nat) (l:List Outc) (o:Outc):qH k (l++[o])=qL (qH k l) (jL o k):=by simp [qH]
theorem qAZ {k j:Nat} {l:List Outc} {o:Outc} (h:l[j]?=some o):qH k (l.take (j+1))=qL (qH k (l.take j)) (jL o k):=by
 rw [List.take_add_one,h]; exact xR k _ o
theorem qIR (k:Nat):∀ l:List Outc,DOK (qH k l) l.length:=by
 intro l
 induction l using qAB with
 | nil=>exact ⟨by simp [qH],by simp [qH],by simp [qH],by simp [qH]⟩
 | append_singleton l o ih =>
  rw [xR,List.length_append]
  exact (ih.note _).mono (by simp)
def qP (x:Int × Int × Int):PD := .agg [.int .i64 x.1,.int .i64 x.2.1,.int .i64 x.2.2]
def wZ (l:List Outc):List (Int × Int × Int):=[qH 0 l,qH 1 l,qH 2 l,qH 3 l,qH 4 l]
def ofL (l:List Int):Int × Int × Int:=l.foldl (fun x n=>(x.1+1,x.2.1+n,wL x.2.2 n)) (0,0,0)
def qIE (l:List Int) (n:Int):List Int:=if n<0∨1099511627776-(ofL l).2.1<n then l else l++[n]
theorem qID (l:List Int) (n:Int):ofL (l++[n])=((ofL l).1+1,(ofL l).2.1+n,wL (ofL l).2.2 n):=by simp [ofL]
def qHU (k:Nat) (l:List Outc):List Int:=l.foldl (fun x o=>qIE x (jL o k)) []
end Go.Proofs.YtcfcfblbpnpclaaGreatDoor
