import Derived.Test.YtdojfdaglbphlaaGreatDoorSTwoV
import Derived.Test.YtdojfdaglbphlaaGreatDoorSNumL
import Derived.Test.YtdojfdaglbphlaaGreatDoorSMergeL
import Derived.Test.YtdojfdaglbphlaaGreatDoorSValidApp
import Derived.Test.YtdojfdaglbphlaaGreatDoorSTreeLaw
import Derived.Test.YtdojfdaglbphlaaGreatDoorK2
namespace Go.Proofs.YtdojfdaglbphlaaGreatDoor
open Sy Go
set_option maxRecDepth 100000
set_option linter.unusedSimpArgs false
set_option linter.unusedVariables false
theorem qFW {c:Int} (h:c≠0) (m:Int):qS (wQ c m)=true:=by
 rw [jX]; simp [wQ,qAM,qAA,qTW,zCV,qLO,qFM,qTG,dc0,h]
theorem qRX (b:Bool) (m:Int):qS (kG b m)=true:=by
 rw [jX]; cases b <;> simp [kG,qAM,qAA,qTW,zCV,qLO,qFM,qTG,dc0]
theorem qZB {r:Dc × Int} (h:r.2=0→zO r.1=true) (m:Int):qS (qFJ r m)=true:=by
 unfold qFJ; split
 ·rename_i h0
  rw [jX]; simp [qAM,qAA,qTW,zCV,qLO,qFM,qTG,h h0]
 rename_i h0; exact qFW h0 m
theorem uH {neg:Bool} {v sc:Nat} (h:(zW neg v sc).2=0):zO (zW neg v sc).1=true:=qLG (qJK v) h
theorem zIJ {neg:Bool} {v:Nat} {sc:Int} (h:(vG neg v sc).2=0):zO (vG neg v sc).1=true:=by
 unfold vG at h ⊢; split
 ·rename_i h0; rw [if_pos h0] at h; exact uH h
 rename_i h0; rw [if_neg h0] at h; exact uH h
theorem zBI {a b:Dc} (h:(qEO a b).2=0):zO (qEO a b).1=true:=by
 unfold qEO at h ⊢
 split
 ·rename_i h0; rw [if_pos h0] at h; exact uH h
 rename_i h0; rw [if_neg h0] at h
 split
 ·rename_i h1; rw [if_pos h1] at h; exact uH h
 rename_i h1; rw [if_neg h1] at h; exact uH h
theorem zMS {a b:Dc} (h:(qEW a b).2=0):zO (qEW a b).1=true:=uH h
theorem zNZ {a b:Dc} (h:(qBE a b).2=0):zO (qBE a b).1=true:=by
 unfold qBE at h ⊢; split
 ·rename_i h0; rw [if_pos h0] at h; exact absurd h (by decide)
 rename_i h0; rw [if_neg h0] at h; exact zIJ h
theorem zMU {a b:Dc} (h:(qAX a b).2=0):zO (qAX a b).1=true:=by
 unfold qAX at h ⊢; split
 ·rename_i h0; rw [if_pos h0] at h; exact absurd h (by decide)
 rename_i h0; rw [if_neg h0] at h; exact uH h
theorem qIT {f:Dc→Dc→Dc × Int} (hf:∀ {a b},(f a b).2=0→zO (f a b).1=true) (a b:Val) (m:Int):qS (uD f a b m)=true:=by
 unfold uD; split
 ·exact qZB hf m
 exact qFW (by decide) m
theorem zLZ {ks:List (List UInt8)} {vs:List Val} {key:List UInt8} {v:Val}:(∀ x∈(xE ks vs key v).1,x∈ks∨x=key)∧(∀ x∈(xE ks vs key v).2,x∈vs∨x=v)∧(ks.Nodup→(xE ks vs key v).1.Nodup):=by
 unfold xE; split
 ·rename_i h
  exact ⟨fun x hx => .inl hx,fun x hx=>List.mem_or_eq_of_mem_set hx,fun h=>h⟩
 rename_i h
 refine ⟨fun x hx => ?_,fun x hx => ?_,fun hn => ?_⟩
 ·simpa using hx
 ·simpa using hx
 rw [List.nodup_append]; exact ⟨hn,by simp,fun a ha b hb=>by rw [List.mem_singleton.1 hb]; rintro rfl; exact h ha⟩
theorem qOU {b:Val} {ks:List (List UInt8)} {vs:List Val} (hl:b.keys.length=b.kids.length):∀ k,k≤b.keys.length→(∀ x∈(wU b k ks vs).1,x∈ks∨x∈b.keys)∧(∀ x∈(wU b k ks vs).2,x∈vs∨x∈b.kids)∧(ks.Nodup→(wU b k ks vs).1.Nodup)
 | 0,_=>⟨fun x h => .inl h,fun x h => .inl h,fun h=>h⟩
 | k+1,hk=>by
  obtain ⟨h1,h2,h3⟩:=qOU (ks:=ks) (vs:=vs) hl k (by omega)
  obtain ⟨p1,p2,p3⟩:=zLZ (ks:=(wU b k ks vs).1) (vs:=(wU b k ks vs).2) (key:=b.keys.getD k []) (v:=b.kids.getD k yR)
  have e1:b.keys.getD k []∈b.keys:=by rw [List.getD_eq_getElem?_getD,List.getElem?_eq_getElem (by omega)]; exact List.getElem_mem _
  have e2:b.kids.getD k yR∈b.kids:=by rw [List.getD_eq_getElem?_getD,List.getElem?_eq_getElem (by omega)]; exact List.getElem_mem _
  simp only [wU]
  refine ⟨fun x hx => ?_,fun x hx => ?_,fun hn=>p3 (h3 hn)⟩
  ·rcases p1 x hx with h | h
   ·exact h1 x h
   rw [h]; exact .inr e1
  rcases p2 x hx with h | h
  ·exact h2 x h
  rw [h]; exact .inr e2
theorem qWO {v:Val} {m:Int} (h:v.kids.length≤200→v.text.length≤4096→qS v=true):qS (qEY v m)=true:=by
 unfold qEY; split
 ·exact qFW (by decide) m
 exact h (by omega) (by omega)
theorem qOX {v:Val} (h:qS v=true) (h5:v.kind=5):xA v.text=true:=by
 rw [jX] at h
 simp only [Bool.and_eq_true,qAA] at h
 have:=h.1.2.1.1.2
 unfold qLO at this
 rwa [if_pos h5] at this
theorem qOY {v:Val} (h:qS v=true) (h7:v.kind=7):v.num=dc0∧v.text=[]∧v.code=0∧qBX v.keys=true:=by
 obtain ⟨h1,_,h2⟩:=qDC h (by omega)
 rcases h2 with ⟨k,_⟩ | ⟨k,_⟩ | ⟨k,_⟩ | ⟨k,_⟩ | ⟨k,_⟩ | ⟨k,_⟩ | ⟨k,e1,e2,e3,e4⟩
 all_goals first | omega | exact ⟨e1,e2,h1,e4⟩
theorem qSS {v:Val} (h:qS v=true) (h6:v.kind=6):v.num=dc0∧v.text=[]∧v.code=0∧v.keys=[]:=by
 obtain ⟨h1,_,h2⟩:=qDC h (by omega)
 rcases h2 with ⟨k,_⟩ | ⟨k,_⟩ | ⟨k,_⟩ | ⟨k,_⟩ | ⟨k,_⟩ | ⟨k,e1,e2,e3⟩ | ⟨k,_⟩
 all_goals first | omega | exact ⟨e1,e2,h1,e3⟩
theorem zMC {a b:Val} (ha:qS a=true) (hb:qS b=true) (m:Int):qS (qYT a b m)=true:=by
 unfold qYT
 split
 ·rw [qXM]; exact hb
 split
 ·rw [qXM]; exact ha
 split
 ·rename_i h
  refine qWO fun _ ht => ?_
  have w1:=qOX ha h.1
  have w2:=qOX hb h.2
  have hw:xA (a.text++b.text)=true:=by
   unfold xA at w1 w2 ⊢
   simp only [Bool.and_eq_true,decide_eq_true_eq] at w1 w2 ⊢
   exact ⟨by simp at ht ⊢; omega,qNF _ _ _ (Nat.le_refl _) w1.2 w2.2⟩
  exact jO (by simp) (by simp) (by simp) (by simp) (fun _=>hw) (by simp) (by simp) (by simp) (by simp) (by simp)
 split
 ·rename_i h
  refine qWO fun hk _ => ?_
  refine jO (by simp at hk ⊢; omega) (by simp) (by simp) (by simp) (by simp) (by simp) (by simp) (by simp) (by simp) fun k hk => ?_
  simp only [Val.kids_mk,List.mem_append] at hk
  rcases hk with h | h
  ·exact yG ha h
  exact yG hb h
 split
 ·rename_i h
  refine qWO fun hk _ => ?_
  obtain ⟨a1,a2,a3,a4⟩:=qOY ha h.1
  obtain ⟨b1,b2,b3,b4⟩:=qOY hb h.2
  obtain ⟨la,_,na⟩:=jW ha h.1
  obtain ⟨lb,_,nb⟩:=jW hb h.2
  obtain ⟨m1,m2,m3⟩:=qOU (ks:=a.keys) (vs:=a.kids) lb b.keys.length (Nat.le_refl _)
  obtain ⟨l1,l2⟩:=zIQ (b:=b) la m
  unfold kV at hk l1 l2 ⊢
  simp only [Val.kids_mk,Val.keys_mk] at hk l1 l2
  refine jO (by simp [h.1]; omega) (by simp [h.1,a3]) (by simp [h.1]) (by simp [a1]) (by simp [h.1]) (by simp [a2]) (fun _=>⟨l1, ?_⟩) (by simp [h.1]) (by simp [h.1]) fun k hk => ?_
  ·simp only [Val.keys_mk]
   unfold qBX at a4 b4 ⊢
   simp only [Bool.and_eq_true,List.all_eq_true,decide_eq_true_eq] at a4 b4 ⊢
   refine ⟨fun x hx => ?_,m3 na⟩
   rcases m1 x hx with h | h
   ·exact a4.1 x h
   exact b4.1 x h
  simp only [Val.kids_mk] at hk
  rcases m2 k hk with h | h
  ·exact yG ha h
  exact yG hb h
 exact qFW (by decide) m
theorem zMX {a b:Val} (ha:qS a=true) (h6:a.kind=6) (m:Int):qS (qES a b m)=true:=by
 obtain ⟨a1,a2,a3,a4⟩:=qSS ha h6
 have hk:a.kids.length≤200:=(qDC ha (by omega)).2.1
 unfold qES
 refine jO ?_ (by simp [h6,a3]) (by simp [h6]) (by simp [a1]) (by simp [h6]) (by simp [a2]) (by simp [h6]) (by simp [a4]) (by simp [h6]) fun k hk => ?_
 ·simp only [Val.kind_mk,Val.kids_mk,h6]
  have:=List.length_filter_le (fun v => !(b.kids.any fun w=>decide (vL v w=0))) a.kids
  omega
 simp only [Val.kids_mk] at hk
 exact yG ha (List.mem_filter.1 hk).1
theorem qSZ (p:Bool→Bool→Bool) (a b:Val) (m:Int):qS (uI p a b m)=true:=by
 unfold uI; split
 ·exact qRX _ m
 exact qFW (by decide) m
theorem zQS (op:List UInt8) {a b:Val} (ha:qS a=true) (hb:qS b=true):qS (qVT op a b)=true:=by
 unfold qVT
 split
 ·unfold qHA; split
  ·exact qZB zBI _
  exact zMC ha hb _
 split
 ·split
  ·rename_i h; exact zMX ha h.1 _
  exact qIT (fun h=>zBI h) a b _
 split
 ·exact qIT zMS a b _
 split
 ·exact qIT zNZ a b _
 split
 ·exact qIT zMU a b _
 split
 ·exact qSZ _ _ _ _
 split
 ·exact qSZ _ _ _ _
 exact qRX _ _
end Go.Proofs.YtdojfdaglbphlaaGreatDoor
