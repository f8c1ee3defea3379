import Derived.Test.YtcfcfblbpnpclaaGreatDoorSCore40
import Derived.Test.YtcfcfblbpnpclaaGreatDoorM4
import Derived.Lib.ItoaLen
import Derived.Lib.Join
namespace Go.Proofs.YtcfcfblbpnpclaaGreatDoor
open Sy Go
set_option linter.unusedSimpArgs false
set_option linter.unusedVariables false
theorem jR {α:Type} {p:List α→Prop} (nil:p []) (append_singleton:∀ l x,p l→p (l++[x])) (l:List α):p l:=by
 have key:∀ l:List α,p l.reverse:=by
  intro l
  induction l with
  | nil=>exact nil
  | cons a l ih=>rw [List.reverse_cons]; exact append_singleton _ _ ih
 have:=key l.reverse
 rwa [List.reverse_reverse] at this
structure Outc where
 code:Int
 docs:Int
 outs:Int
 charge:Int
 errs:List Int
 out:List UInt8
 log:List UInt8
def byD (b:UInt8):PD := .int .u8 b.toNat
def inD (n:Int):PD := .int .i64 n
def Outc.enc (o:Outc):PD := .agg [.int .i64 o.code,.int .i64 o.docs,.int .i64 o.outs,.int .i64 o.charge,.sl 1 (o.errs.map inD),.sl 1 (o.out.map byD),.sl 1 (o.log.map byD)]
theorem Outc.enc_def (o:Outc):o.enc = .agg [.int .i64 o.code,.int .i64 o.docs,.int .i64 o.outs,.int .i64 o.charge,.sl 1 (o.errs.map inD),.sl 1 (o.out.map byD),.sl 1 (o.log.map byD)]:=rfl
def jK (r:Nat):Nat:=if r % 2=1 then (r / 2) ^^^ 3988292384 else r / 2
def xP:Nat→Nat→Nat
 | 0,r=>r
 | k+1,r=>xP k (jK r)
def qBA (r:Nat):List UInt8→Nat
 | []=>r
 | b::l=>qBA (xP 8 (r ^^^ b.toNat)) l
def wN (l:List UInt8):Nat:=qBA 4294967295 l ^^^ 4294967295
theorem vF {r:Nat} (h:r<4294967296):jK r<4294967296:=by
 unfold jK
 split
 ·exact Nat.xor_lt_two_pow (n:=32) (by omega) (by decide)
 omega
theorem yH {a b:Nat} (ha:a<4294967296) (hb:b<4294967296):a ^^^ b<4294967296:=Nat.xor_lt_two_pow (n:=32) ha hb
theorem qGL:∀ (l:List UInt8) {r:Nat},r<4294967296→qBA r l<4294967296
 | [],_,h=>h
 | b::l,r,h=>by
  have key:∀ (k r:Nat),r<4294967296→xP k r<4294967296:=by
   intro k
   induction k with
   | zero=>exact fun r h=>h
   | succ k ih=>exact fun r h=>ih _ (vF h)
  exact qGL l (key 8 _ (yH h (by have:=b.toNat_lt; omega)))
theorem kZ (l:List UInt8):wN l<4294967296:=yH (qGL l (by decide)) (by decide)
def wU (l:List Int):List UInt8:=l.flatMap fun n=>32::Lib.itoa n
def qX (w:List UInt8) (l:List Int):List UInt8:=w++wU l++[10]
theorem qFF (l:List Int) (n:Int):wU (l++[n])=wU l++32::Lib.itoa n:=by simp [wU]
theorem qCH (w:List UInt8):∀ l:List Int,Lib.join (w::l.map Lib.itoa) [32]=w++wU l
 | []=>by simp [Lib.join,wU]
 | n::l=>by
  have ih:=qCH (Lib.itoa n) l
  have e:Lib.join (w::Lib.itoa n::l.map Lib.itoa) [32]=w++[32]++Lib.join (Lib.itoa n::l.map Lib.itoa) [32]:=by simp [Lib.join,List.intercalate,List.intersperse]
  rw [List.map_cons,e,ih]
  simp [wU]
def qBT (o:Outc):List UInt8:=qX [99,111,100,101] [o.code]++qX [100,111,110,101] [o.docs,o.outs,o.charge]++qX [101,114,114,111,114,115] o.errs++qX [111,117,116] [o.out.length,wN o.out]++qX [108,111,103] [o.log.length,wN o.log]
def yK (a b:Int):Int:=if a<b then b else a
def qL (x:Int × Int × Int) (n:Int):Int × Int × Int:=if n<0∨1099511627776-x.2.1<n then x else (x.1+1,x.2.1+n,yK x.2.2 n)
def DOK (x:Int × Int × Int) (N:Int):Prop:=0≤x.1∧x.1≤N∧0≤x.2.1∧x.2.1≤1099511627776
theorem DOK.mono {x:Int × Int × Int} {N N':Int} (h:DOK x N) (hn:N≤N'):DOK x N':=⟨h.1,Int.le_trans h.2.1 hn,h.2.2.1,h.2.2.2⟩
theorem DOK.note {x:Int × Int × Int} {N:Int} (h:DOK x N) (n:Int):DOK (qL x n) (N+1):=by
 obtain ⟨h1,h2,h3,h4⟩:=h
 unfold qL
 split
 ·exact ⟨h1,by omega,h3,h4⟩
 rename_i hh
 exact ⟨by simp only; omega,by simp only; omega,by simp only; omega,by simp only; omega⟩
def qFD (o:Outc):Nat→Int
 | 0=>o.docs
 | 1=>o.outs
 | 2=>o.charge
 | 3=>o.out.length
 | _=>o.log.length
def qH (k:Nat) (l:List Outc):Int × Int × Int:=l.foldl (fun x o=>qL x (qFD o k)) (0,0,0)
theorem xY (k:Nat) (l:List Outc) (o:Outc):qH k (l++[o])=qL (qH k l) (qFD o k):=by simp [qH]
theorem qAZ {k j:Nat} {l:List Outc} {o:Outc} (h:l[j]?=some o):qH k (l.take (j+1))=qL (qH k (l.take j)) (qFD o k):=by
 rw [List.take_add_one,h]; exact xY k _ o
theorem qIS (k:Nat):∀ l:List Outc,DOK (qH k l) l.length:=by
 intro l
 induction l using jR with
 | nil=>exact ⟨by simp [qH],by simp [qH],by simp [qH],by simp [qH]⟩
 | append_singleton l o ih =>
  rw [xY,List.length_append]
  exact (ih.note _).mono (by simp)
def qN (x:Int × Int × Int):PD := .agg [.int .i64 x.1,.int .i64 x.2.1,.int .i64 x.2.2]
def kD (l:List Outc):List (Int × Int × Int):=[qH 0 l,qH 1 l,qH 2 l,qH 3 l,qH 4 l]
def ofL (l:List Int):Int × Int × Int:=l.foldl (fun x n=>(x.1+1,x.2.1+n,yK x.2.2 n)) (0,0,0)
def zW (l:List Int) (n:Int):List Int:=if n<0∨1099511627776-(ofL l).2.1<n then l else l++[n]
theorem vI (l:List Int) (n:Int):ofL (l++[n])=((ofL l).1+1,(ofL l).2.1+n,yK (ofL l).2.2 n):=by simp [ofL]
theorem qIE (l:List Int) (n:Int):ofL (zW l n)=qL (ofL l) n:=by
 unfold zW qL
 split
 ·rfl
 exact vI l n
def wQ (k:Nat) (l:List Outc):List Int:=l.foldl (fun x o=>zW x (qFD o k)) []
theorem xI (k:Nat) (l:List Outc) (o:Outc):wQ k (l++[o])=zW (wQ k l) (qFD o k):=by simp [wQ]
theorem qHA (k:Nat) (l:List Outc):ofL (wQ k l)=qH k l:=by
 induction l using jR with
 | nil=>rfl
 | append_singleton l o ih=>rw [xI,qIE,ih,xY]
theorem qHD (l:List Int) (n:Int):(zW l n).length≤l.length+1:=by
 unfold zW; split <;> simp
theorem qDW (k:Nat) (l:List Outc):(wQ k l).length≤l.length:=by
 induction l using jR with
 | nil=>simp [wQ]
 | append_singleton l o ih=>rw [xI]; have:=qHD (wQ k l) (qFD o k); simp; omega
end Go.Proofs.YtcfcfblbpnpclaaGreatDoor
