import Derived.Test.YtgcbapchinideaaGreatDoorSCallN
import Derived.Test.YtgcbapchinideaaGreatDoorSAlkB
namespace Go.Proofs.YtgcbapchinideaaGreatDoor
open Sy Go
set_option maxRecDepth 100000
set_option maxHeartbeats 4000000
set_option linter.all false
noncomputable def qHY (n:Nat) (arg:List UInt8) (v:Val) (m:Int):Val:=match n with
 | 0=>qNW Lib.runeCountL v m
 | 1=>qQM v m
 | 2=>zEF v m
 | 3=>wW (zAO v.kind) m
 | 4=>if v.kind=6 then yE (srt leV v.kids) m else qQ 40 m
 | 5=>if v.kind=6 then yE (uqV (srt leV v.kids)) m else qQ 40 m
 | 6=>if v.kind=6 then yE v.kids.reverse m else qQ 40 m
 | 7=>if v.kind=6 then qSK v.kids m else qQ 40 m
 | 8=>if v.kind=6 then qBM (fun a b=>decide (wT a b<0)) v.kids m else qQ 40 m
 | 9=>if v.kind=6 then qBM (fun a b=>decide (0<wT a b)) v.kids m else qQ 40 m
 | 10=>if v.kind=4 then vH (zAE [102,108,111,111,114] v.num (qBT v.num)) m else qQ 40 m
 | 11=>if v.kind=4 then vH (zAE [99,101,105,108] v.num (qBT v.num)) m else qQ 40 m
 | 12=>if v.kind=4 then vH (zAE [114,111,117,110,100] v.num (qBT v.num)) m else qQ 40 m
 | 13=>qKA v m
 | 14=>if v.kind=5 then wW v.text m else qKA v m
 | 15=>if v.kind=4 then .mk 4 m v.num [] [] [] 0 else if v.kind=5 then vH (xE v.text) m else qQ 40 m
 | 16=>if v.kind=6 then vZ v.kids [97,110,121] m else qQ 40 m
 | 17=>if v.kind=6 then vZ v.kids [97,108,108] m else qQ 40 m
 | 18=>uE v m
 | 19=>zEX arg v m
 | 20=>if v.kind=5 then qSZ arg v.text m else qQ 40 m
 | 21=>if v.kind=5 then yT (yP v.text arg) m else qQ 40 m
 | 22=>if v.kind=5 then yT (qVU v.text arg) m else qQ 40 m
 | 23=>if v.kind=6 then qFT v.kids arg m else qQ 40 m
 | _=>if v.kind=5 then qFG (qDQ v.text arg) m else qQ 40 m
def zPT (n:Nat):Bool:=decide (n∈[4,5,7,8,9,13,14,16,17,23])
def mC (n:Nat) (v:Val):Int:=if zPT n=true then zJ v else v.mask
theorem zTS {n:Nat} (hn:n<25):n=0\/n=1\/n=2\/n=3\/n=4\/n=5\/n=6\/n=7\/n=8\/n=9\/n=10\/n=11\/n=12\/n=13\/n=14\/n=15\/n=16\/n=17\/n=18\/n=19\/n=20\/n=21\/n=22\/n=23\/n=24:=by omega
theorem qXO {n:Nat} (hn:n<25) (arg:List UInt8) (v:Val):uI n arg v=qHY n arg v (mC n v):=by
 rcases zTS hn with h|h|h|h|h|h|h|h|h|h|h|h|h|h|h|h|h|h|h|h|h|h|h|h|h
 all_goals subst h
 all_goals rfl
theorem zMZ (c m:Int):(qQ c m).mask=m:=rfl
theorem zJF (b:Bool) (m:Int):(yT b m).mask=m:=rfl
theorem zSM (m:Int):(qWO m).mask=m:=rfl
theorem zMX (s:List UInt8) (m:Int):(wW s m).mask=m:=by unfold wW;split <;> rfl
theorem zMY (l:List Val) (m:Int):(yE l m).mask=m:=by unfold yE;split <;> rfl
theorem zSL (r:Dc × Int) (m:Int):(vH r m).mask=m:=by unfold vH;split <;> rfl
theorem zLU {n:Nat} (hn:n<25) (h8:n≠8) (h9:n≠9) (arg:List UInt8) (v:Val) (m:Int):(qHY n arg v m).mask=m:=by
 rcases zTS hn with h|h|h|h|h|h|h|h|h|h|h|h|h|h|h|h|h|h|h|h|h|h|h|h|h
 all_goals subst h
 all_goals first
  | exact absurd rfl h8
  | exact absurd rfl h9
  | skip
 all_goals simp only[qHY,qNW,qQM,zEF,qSK,qKA,vZ,uE,zEX,qSZ,qFT,qFB,qFG]
 all_goals repeat' split
 all_goals first
  | exact zMZ _ _
  | exact zMX _ _
  | exact zMY _ _
  | exact zSL _ _
  | exact zJF _ _
  | exact zSM _
  | rfl
theorem zFW {n:Nat} (hn:n<25) (arg:List UInt8) (v:Val) (m:Int):(qHY n arg v m).mask=m\/∃ x,(qHY n arg v m).mask=orM x m:=by
 have hb:∀ b:Val->Val->Bool,(if v.kind=6 then qBM b v.kids m else qQ 40 m).mask=m\/∃ x,(if v.kind=6 then qBM b v.kids m else qQ 40 m).mask=orM x m:=fun b=>by
  unfold qBM
  split
  ·split
   ·exact .inl rfl
   exact .inr ⟨_,rfl⟩
  exact .inl rfl
 by_cases h8:n=8
 ·subst h8;exact hb _
 by_cases h9:n=9
 ·subst h9;exact hb _
 exact .inl (zLU hn h8 h9 arg v m)
theorem zQJ {n:Nat} (hn:n<25) (hd:zPT n=false) (h6:n≠6) (h18:n≠18) (arg:List UInt8) {a b:Val} (e1:a.kind=b.kind) (e3:a.num=b.num) (e4:a.text=b.text) (e5:a.keys=b.keys) (hl:a.kids.length=b.kids.length) (m:Int):qHY n arg a m=qHY n arg b m:=by
 have ht:kR a=kR b:=by unfold kR;rw[e1]
 rcases zTS hn with h|h|h|h|h|h|h|h|h|h|h|h|h|h|h|h|h|h|h|h|h|h|h|h|h
 all_goals subst h
 all_goals first
  | exact absurd rfl h6
  | exact absurd rfl h18
  | exact absurd hd (by decide)
  | skip
 all_goals simp only[qHY,qNW,qQM,zEF,ht,zEX,e1,e3,e4,e5,hl]
theorem zDB {c:Int}:∀ {l m:List Val},kH c l m->kH c l.reverse m.reverse
 | [],[],h=>by simpa using h
 | x::l,y::m,h=>by
  simp only[kH]at h
  rw[List.reverse_cons,List.reverse_cons]
  exact qNS (zDB h.2) (by simp only[kH];exact⟨h.1,True.intro⟩)
 | [],_::_,h=>by simp only[kH]at h
 | _::_,[],h=>by simp only[kH]at h
theorem zDA {c:Int}:∀ (ks:List (List UInt8)) {l m:List Val},kH c l m->kH c (List.zipWith kN ks l) (List.zipWith kN ks m)
 | [],l,m,h=>by simp only[List.zipWith_nil_left,kH]
 | k::ks,[],[],h=>by simp only[List.zipWith_nil_right,kH]
 | k::ks,x::l,y::m,h=>by
  simp only[kH]at h
  simp only[List.zipWith_cons_cons,kH]
  exact⟨zQY _ _ _ _ _ _ (by simp only[kH];exact⟨qDI _ _,h.1,True.intro⟩),zDA ks h.2⟩
 | _::_,[],_::_,h=>by simp only[kH]at h
 | _::_,_::_,[],h=>by simp only[kH]at h
theorem zCS {c:Int} {l k:List Val} (h:kH c l k) (m:Int):Alk c (yE l m) (yE k m):=by
 unfold yE
 rw[qKV h]
 split
 ·exact qDI _ _
 exact zQY _ _ _ _ _ _ h
theorem qHH {n:Nat} (hn:n<25) (arg:List UInt8) (v:Val) {m c:Int} (h:yV m c≠0):yV (qHY n arg v m).mask c≠0:=by
 rcases zFW hn arg v m with e|⟨x,e⟩
 ·rw[e];exact h
 rw[e];exact fun h'=>h ((zDP _ _ _).1 h').2
theorem zLS {n:Nat} (hn:n<25) (arg:List UInt8) {c:Int} {a b:Val} (h:Alk c a b):Alk c (uI n arg a) (uI n arg b):=by
 rw[qXO hn,qXO hn]
 unfold mC
 by_cases hd:zPT n=true
 ·rw[if_pos hd,if_pos hd]
  obtain⟨h1,h2⟩:=zQZ c a b h
  by_cases hs:yV (zJ a) c=0
  ·rw[h2 hs];exact qDI _ _
  exact zIM (qHH hn arg a hs) (qHH hn arg b fun h'=>hs (h1.2 h'))
 rw[if_neg hd,if_neg hd]
 rw[qEU]at h
 rcases h with⟨h1,h2⟩|⟨h1,h2,e1,e2,e3,e4,e5,e6,hL⟩
 ·exact zIM (qHH hn arg a h1) (qHH hn arg b h2)
 rw[e2]
 by_cases h6:n=6
 ·subst h6
  show Alk c (if a.kind=6 then yE a.kids.reverse b.mask else qQ 40 b.mask) (if b.kind=6 then yE b.kids.reverse b.mask else qQ 40 b.mask)
  rw[e1]
  split
  ·exact zCS (zDB hL) _
  exact qDI _ _
 by_cases h18:n=18
 ·subst h18
  show Alk c (uE a b.mask) (uE b b.mask)
  unfold uE xN
  rw[e1,e5]
  split
  ·exact zCS (zDA _ hL) _
  exact qDI _ _
 rw[zQJ hn (by simpa using hd) h6 h18 arg e1 e3 e4 e5 (qKV hL) b.mask]
 exact qDI _ _
end Go.Proofs.YtgcbapchinideaaGreatDoor
