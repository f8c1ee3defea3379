import Derived.Test.YtgcbapchinideaaGreatDoorK1
namespace Go.Proofs.YtgcbapchinideaaGreatDoor
open Sy Go
set_option maxRecDepth 100000
set_option linter.unusedSimpArgs false
set_option linter.unusedVariables false
theorem zEH {n:Int} (h:0≤n∧n<9223372036854775808):IntKind.i64.wrap n=n:=by simp [IntKind.wrap,IntKind.bits,IntKind.signed]; omega
theorem qKX {s:List UInt8} (h:s.all qG=true) {k:Nat} (hk:k<s.length):∃ c:UInt8,s[s.length-1-k]?=some c∧c.toNat=48+qR s / 10 ^ k % 10:=by
 refine ⟨s[s.length-1-k]'(by omega),List.getElem?_eq_getElem _, ?_⟩
 have hc:qG (s[s.length-1-k]'(by omega))=true:=List.all_eq_true.1 h _ (List.getElem_mem _)
 have e:s=s.take (s.length-1-k)++s[s.length-1-k]'(by omega)::s.drop (s.length-1-k+1):=by
  rw [← List.drop_eq_getElem_cons (by omega),List.take_append_drop]
 generalize hcc:s[s.length-1-k]'(by omega)=c at *
 have hl:(s.drop (s.length-1-k+1)).length=k:=by rw [List.length_drop]; omega
 have hd:=wH (qHJ h (s.length-1-k+1))
 rw [hl] at hd
 have hv:qR s=(qR (s.take (s.length-1-k)) * 10+(c.toNat-48)) * 10 ^ k+qR (s.drop (s.length-1-k+1)):=by
  conv=>lhs; rw [e]
  rw [yF,wZ,List.length_cons,hl,Nat.pow_succ,Nat.add_mul,Nat.mul_assoc,Nat.mul_comm 10,Nat.add_assoc]
 rw [wB] at hc
 have hp:0<10 ^ k:=Nat.pow_pos (by decide)
 rw [hv,Nat.mul_comm,Nat.mul_add_div hp,Nat.div_eq_of_lt hd]
 omega
def xT (a b k:Nat):Nat:=(a % 10 ^ k+b % 10 ^ k) / 10 ^ k
theorem qRJ (a b k:Nat):xT a b k≤1:=by
 have hp:0<10 ^ k:=Nat.pow_pos (by decide)
 have ha:=Nat.mod_lt a hp
 have hb:=Nat.mod_lt b hp
 unfold xT
 have:(a % 10 ^ k+b % 10 ^ k) / 10 ^ k<2:=(Nat.div_lt_iff_lt_mul hp).2 (by omega)
 omega
theorem qWR (a b k:Nat):(a / 10 ^ k % 10+b / 10 ^ k % 10+xT a b k) % 10=(a+b) / 10 ^ k % 10∧(a / 10 ^ k % 10+b / 10 ^ k % 10+xT a b k) / 10=xT a b (k+1):=by
 have hp:0<10 ^ k:=Nat.pow_pos (by decide)
 have e:∀ x:Nat,x % 10 ^ (k+1)=x % 10 ^ k+10 ^ k * (x / 10 ^ k % 10):=fun x=>Nat.mod_pow_succ
 have da:=Nat.div_add_mod a (10 ^ k)
 have db:=Nat.div_add_mod b (10 ^ k)
 unfold xT
 rw [e a,e b,Nat.pow_succ,← Nat.div_div_eq_div_mul]
 have h1:(a+b) / 10 ^ k=(a % 10 ^ k+b % 10 ^ k) / 10 ^ k+(a / 10 ^ k+b / 10 ^ k):=by
  have:a+b=(a % 10 ^ k+b % 10 ^ k)+10 ^ k * (a / 10 ^ k+b / 10 ^ k):=by rw [Nat.mul_add]; omega
  rw [this,Nat.add_mul_div_left _ _ hp]
 have h2:(a % 10 ^ k+10 ^ k * (a / 10 ^ k % 10)+(b % 10 ^ k+10 ^ k * (b / 10 ^ k % 10))) / 10 ^ k=(a % 10 ^ k+b % 10 ^ k) / 10 ^ k+(a / 10 ^ k % 10+b / 10 ^ k % 10):=by
  have:a % 10 ^ k+10 ^ k * (a / 10 ^ k % 10)+(b % 10 ^ k+10 ^ k * (b / 10 ^ k % 10))=(a % 10 ^ k+b % 10 ^ k)+10 ^ k * (a / 10 ^ k % 10+b / 10 ^ k % 10):=by rw [Nat.mul_add]; omega
  rw [this,Nat.add_mul_div_left _ _ hp]
 rw [h1,h2]
 generalize (a % 10 ^ k+b % 10 ^ k) / 10 ^ k=c
 constructor
 ·omega
 congr 1; omega
theorem qWI:∀ w v x,wY w (v+10 ^ w * x)=wY w v:=by
 intro w v x
 refine qKY _ _ (by rw [yJ,yJ]) (jX _ _) (jX _ _) ?_
 rw [jW,jW,Nat.add_mul_mod_self_left]
theorem qWK {n a b:Nat} (h:b≤a):wY n (a+10 ^ n-b)=wY n (a-b):=by
 rw [show a+10 ^ n-b=a-b+10 ^ n * 1 by omega,qWI]
end Go.Proofs.YtgcbapchinideaaGreatDoor
