import Derived.Test.YtbhhphabggcacaaGreatDoorK1
import Derived.Test.YtbhhphabggcacaaGreatDoorK2
import Derived.Test.YtbhhphabggcacaaGreatDoorSNormMay
import Derived.Test.YtbhhphabggcacaaGreatDoorSParseEq
namespace Go.Proofs.YtbhhphabggcacaaGreatDoor
open Sy Go
set_option maxRecDepth 100000
set_option linter.unusedSimpArgs false
set_option linter.unusedVariables false
def xH (b:UInt8):Bool:=decide (97≤b.toNat) && decide (b.toNat≤122)
def qHP (b:UInt8):Bool:=xH b || qI b || decide (b=95)
def qRO (b:UInt8):Bool:=decide (b=32) || decide (b=9) || decide (b=10) || decide (b=13)
def qJK:List UInt8:=[46,40,41,91,93,123,125,124,44,58,59,43,45,42,47,37,60,62]
def qOH (b:UInt8):Bool:=asF qJK b.toNat
def spn (p:UInt8→Bool) (s:List UInt8):Nat:=(s.takeWhile p).length
theorem xU (p:UInt8→Bool) (s:List UInt8):spn p s≤s.length:=(List.takeWhile_sublist _).length_le
theorem qSW {cs:List UInt8} {p:UInt8→Bool} (h:∀ k:Fin 256,asF cs k.val=p (UInt8.ofNat k.val)) (s:List UInt8):((s.length:Int)-(xA (asF cs) s).length)=((spn p s:Nat):Int):=by
 have e:xA (asF cs) s=s.dropWhile p:=by
  unfold xA; congr 1; funext b
  have:=h ⟨b.toNat,b.toNat_lt⟩
  simpa using this
 have:=congrArg List.length (List.takeWhile_append_dropWhile (p:=p) (l:=s))
 rw [List.length_append] at this
 rw [e]; unfold spn; omega
theorem qWR:∀ k:Fin 256,asF wR k.val=xH (UInt8.ofNat k.val):=by decide +kernel
theorem qYD:∀ k:Fin 256,asF jH k.val=qHP (UInt8.ofNat k.val):=by decide +kernel
theorem qXC:∀ k:Fin 256,asF [48,49,50,51,52,53,54,55,56,57] k.val=qI (UInt8.ofNat k.val):=by decide +kernel
theorem qYX:∀ k:Fin 256,asF [32,9,10,13] k.val=qRO (UInt8.ofNat k.val):=by decide +kernel
theorem qYG:∀ k:Fin 256,asF qJK k.val=qOH (UInt8.ofNat k.val):=by decide +kernel
theorem qWS (b:UInt8):decide (b∈wR)=xH b:=by
 have:∀ k:Fin 256,decide (UInt8.ofNat k.val∈wR)=xH (UInt8.ofNat k.val):=by decide +kernel
 have:=this ⟨b.toNat,b.toNat_lt⟩
 simpa using this
def uF (s:List UInt8):List UInt8 × Bool:=if spn xH s=0 then ([],false) else (s.take (spn qHP s),vH (s.take (spn qHP s)))
def qBG (s:List UInt8) (n:Nat):Nat:=if zG (s.drop n) [46]=true∧0<spn qI (s.drop (n+1)) then n+(1+spn qI (s.drop (n+1))) else n
def qMR (s:List UInt8) (n:Nat):Nat :=
 let m:=if n+1<s.length∧(s.getD (n+1) 0=43∨s.getD (n+1) 0=45) then n+1+1 else n+1
 if 0<spn qI (s.drop m) then m+spn qI (s.drop m) else n
def qER (s:List UInt8):Nat :=
 let n:=qBG s (spn qI s)
 if n=s.length∨(s.getD n 0≠101∧s.getD n 0≠69) then n else qMR s n
def uH:List (List UInt8):=[[61,61],[33,61],[60,61],[62,61]]
def uV (s:List UInt8):List UInt8:=match uH.find? (fun w=>zG s w) with
 | some w=>w
 | none=>s.take (min 1 (spn qOH s))
def jI (s:List UInt8):Int × Nat:=if s.getD 0 0=36 then (2,1) else if s.getD 0 0=46∧1<s.length∧(s.getD 1 0=34∨xH (s.getD 1 0)=true) then (3,1) else (0,0)
def qCZ (k:Int) (t:List UInt8):Tok:=⟨k,0,t,⟨false,[],0⟩⟩
def qLW (s:List UInt8):Tok × Nat :=
 let k:=(jI s).1
 let d:=(jI s).2
 let r:=s.drop d
 if zG r [34]=true∧k≠2 then
  if (zQ r).2.2≠0 then (qCZ k [],0) else (qCZ (if k=0 then 5 else k) (zQ r).1,d+(zQ r).2.1)
 else if k≠0∨0<spn xH r then
  if (uF r).2=false then (qCZ (if k=0 then 1 else k) [],0) else (qCZ (if k=0 then 1 else k) (uF r).1,d+(uF r).1.length)
 else if 0<spn qI r then
  if (jQ (r.take (qER r))).2≠0 then (qCZ 0 [],0) else (⟨4,0,[],(jQ (r.take (qER r))).1⟩,qER r)
 else (qCZ 6 (uV s),(uV s).length)
def qCO:Nat→Nat→List UInt8→Option (List Tok)
 | 0,_,_=>none
 | n+1,a,r =>
  let b:=spn qRO r
  let q:=r.drop b
  if q=[] then some [] else
   let o:=qLW q
   if o.2=0 then none else (qCO n (a+b+o.2) (q.drop o.2)).map fun l=>{ o.1 with pos:=((a+b:Nat):Int) }::l
def qBR (s:List UInt8):List Tok × Int :=
 if 2000<s.length then ([],3) else match qCO (s.length+1) 0 s with
  | none=>([],30)
  | some l=>if 600<l.length then ([],3) else (l,0)
theorem qIR {s p:List UInt8} (h:zG s p=true):p.length≤s.length:=by
 unfold zG at h; simp only [Bool.and_eq_true,decide_eq_true_eq] at h; exact h.1
theorem qMN (s:List UInt8) {n:Nat} (h:n≤s.length):qBG s n≤s.length:=by
 unfold qBG
 split
 ·have:=xU qI (s.drop (n+1))
  rename_i c
  have h2:=qIR c.1
  simp only [List.length_drop,List.length_singleton] at this h2
  omega
 exact h
theorem qUE (s:List UInt8) {n:Nat} (h:n≤s.length):qMR s n≤s.length:=by
 unfold qMR
 simp only
 generalize (if n+1<s.length∧(s.getD (n+1) 0=43∨s.getD (n+1) 0=45) then n+1+1 else n+1)=m
 split
 ·rename_i c
  have:=xU qI (s.drop m)
  simp only [List.length_drop] at this
  omega
 exact h
theorem qPU (s:List UInt8):qER s≤s.length:=by
 have h1:=qMN s (xU qI s)
 unfold qER
 simp only
 split
 ·exact h1
 exact qUE s h1
theorem qSZ (s:List UInt8):(uV s).length≤s.length:=by
 unfold uV
 split
 ·rename_i w h
  exact qIR (List.find?_some h)
 simp; omega
theorem qMG {s:List UInt8} (h:s≠[]):(jI s).2≤s.length:=by
 have:=List.length_pos_iff.2 h
 unfold jI
 split
 ·simp; omega
 split <;> simp; omega
theorem qKV (s:List UInt8):(uF s).1.length≤s.length:=by
 unfold uF
 split
 ·simp
 simp; omega
end Go.Proofs.YtbhhphabggcacaaGreatDoor
