import Derived.Test.YtgcbapchinideaaGreatDoorSUnT
import Derived.Test.YtgcbapchinideaaGreatDoorK1
import Derived.Test.YtgcbapchinideaaGreatDoorSRefSB
namespace Go.Proofs.YtgcbapchinideaaGreatDoor
open Sy Go
set_option maxRecDepth 100000
set_option maxHeartbeats 4000000
set_option linter.unusedSimpArgs false
set_option linter.unusedVariables false
variable {G:qJ}
def uX (s:List UInt8):List UInt8:=if 40<s.length then s.take 40 else s
def qFU (s:List UInt8):List UInt8:=if qBU (uX s)=false then [97] else uX s
theorem qMA (s:List UInt8):(uX s).length≤40:=by unfold uX; split <;> first | (simp; omega) | omega | simp
theorem qML (s:List UInt8):AFn Tryz.prog G 13 [.str s] (.str (qFU s)):=by
 refine AFn.introU tok Tryz.func13 (by kernel_rfl) rfl rfl ?_
 simp only [Tryz.f13,qK,List.map_cons,List.map_nil]
 have hc:uX s=if 40<s.length then s.take 40 else s:=rfl
 have hv:=qKO (G:=G) (uX s) (by have:=qMA s; omega)
 have e:qFU s=if qBU (uX s)=false then [97] else uX s:=rfl
 rw [e]
 generalize qBU (uX s)=b at *
 generalize uX s=c at *
 refine rgn [] [[0]] ?_
 refine op1 tok ?_
 refine qA ?_
 refine AW.join (α:=Unit) (fun _=>True) (fun a=>⟨zA 12 [(0,.p (.str c))],[],[],0⟩) ?_ ?_
 ·
  refine rgn [] [[],[],[0,5]] ?_
  iterate 3 refine op1 tok ?_
  refine qA (cnd ?_ ?_)
  ·intro h5
   try simp at h5
   have hcc:s.take 40=c:=by rw [hc,if_pos (by omega)]
   refine rgz [] [[],[],[0]] ?_
   iterate 3 refine op1 tok ?_
   refine qA ?_
   exact ⟨(),trivial,qG (by simp [hcc]),rfl,by simp [hcc],by simp [hcc]⟩
  intro h5
  try simp at h5
  have hcc:s=c:=by rw [hc,if_neg (by omega)]
  refine AW.skip ?_
  exact ⟨(),trivial,qG (by simp [hcc]),rfl,by simp [hcc],by simp [hcc]⟩
 ·
  rintro a hI
  refine AW.seq (rgn [.nilp,.bool b] [[],[],[0,10]] ?_)
  iterate 3 refine oq1 tok hv ?_
  refine qA (cnd ?_ ?_)
  ·intro h10
   try simp at h10
   rw [if_pos h10]
   refine rgn [] [[]] ?_
   refine op1 tok ?_
   exact qA (AW.ret qO)
  intro h10
  try simp at h10
  rw [if_neg (by simp [h10])]
  refine AW.skip (rgn [] [[],[2]] ?_)
  iterate 2 refine op1 tok ?_
  exact qA (AW.ret qO)
theorem qLT (n:Nat) (hn:n≤1000000):AFn Tryz.prog G 21 [.int .i64 n] (.str (qLB 20 n [])):=by
 refine AFn.introU tok Tryz.func21 (by kernel_rfl) rfl rfl ?_
 simp only [Tryz.f21,qK,List.map_cons,List.map_nil]
 have hp0:n<10 ^ 20:=Nat.lt_of_le_of_lt hn (by decide)
 obtain ⟨R,hR⟩:∃ R,qLB 20 n []=R:=⟨_,rfl⟩
 rw [hR]
 refine rgn [] [[0]] ?_
 refine op1 tok ?_
 refine qA (rgn [] [[]] ?_)
 refine op1 tok ?_
 refine qA (AW.seq (AW.block ?_))
 refine AW.loop (α:=Nat × Nat × List UInt8) (fun a=>R=qLB a.1 a.2.1 a.2.2∧a.2.1≤n∧1≤a.1∧a.2.1<10 ^ a.1∧a.2.2.length+a.1=20) (fun a=>⟨zA 23 [(0,.p (.int .i64 a.2.1)),(3,.p (.str a.2.2))],[],[],0⟩) (fun a=>a.2.1) ((20,n,[])) ⟨hR.symm,Nat.le_refl _,by simp,hp0,rfl⟩ ⟨qG (by simp),rfl,by simp,by simp⟩ ?_
 rintro ⟨f,u,l⟩ ⟨hu,hle,hf1,hp,hf⟩
 simp only at hu hle hf1 hp hf
 obtain ⟨f,rfl⟩:∃ g,f=g+1:=⟨f-1,by omega⟩
 simp only [qLB] at hu
 refine AW.seq (rgn [] [[],[0,3,5]] ?_)
 iterate 2 refine op1 tok ?_
 refine qA (cnd ?_ ?_)
 ·intro h5
  try simp at h5
  rw [if_pos (by omega)] at hu
  have hd:u % 10<10:=Nat.mod_lt _ (by decide)
  have dm:(u:Int).tmod 10=((u % 10:Nat):Int):=(Int.ofNat_tmod u 10).symm
  have dc:IntKind.u8.wrap (48+(u:Int).tmod 10)=((UInt8.ofNat (48+u % 10)).toNat:Int):=by
   rw [dm,show (UInt8.ofNat (48+u % 10)).toNat=48+u % 10 by rw [UInt8.toNat_ofNat']; omega]
   simp [IntKind.wrap,IntKind.bits,IntKind.signed]; omega
  have dt:IntKind.i64.wrap ((u:Int) / 10)=((u / 10:Nat):Int):=by simp [IntKind.wrap,IntKind.bits,IntKind.signed]; omega
  have hpw:u / 10<10 ^ f:=by rw [Nat.pow_succ] at hp; omega
  have hff:1≤f:=by
   cases f with
   | zero=>simp at hp; omega
   | succ g=>omega
  generalize UInt8.ofNat (48+u % 10)=D at *
  refine AW.skip (AW.block (rgn [.int .u8 D.toNat,.str [D]] [[],[],[],[],[0,3,10],[],[],[0,13],[0,3]] ?_))
  iterate 9 refine op1 tok ?_ (hv:=by first | with_reducible exact True.intro | (first | rfl | exact dc | (rw [dm]; omega) | (simp; omega); done) | omega | simp | (simp +contextual; omega))
  refine qA (rgz [] [[],[],[0,3]] ?_)
  iterate 3 refine op1 tok ?_
  refine qA ?_
  exact ⟨(f,u / 10,D::l),⟨hu,by simp only; omega,hff,hpw,by simp only [List.length_cons]; omega⟩,by simp only; omega,qG (by simp [dt]),rfl,by simp [dt],by simp [dt]⟩
 intro h5
 try simp at h5
 rw [if_neg (by omega)] at hu
 have dc:IntKind.u8.wrap (48+(u:Int))=((UInt8.ofNat (48+u)).toNat:Int):=by
  rw [show (UInt8.ofNat (48+u)).toNat=48+u by rw [UInt8.toNat_ofNat']; omega]
  simp [IntKind.wrap,IntKind.bits,IntKind.signed]; omega
 rw [hu]
 generalize UInt8.ofNat (48+u)=D at *
 refine AW.exit ?_
 simp
 refine rgn [.int .u8 D.toNat,.str [D]] [[],[],[],[3,19],[],[],[22],[2]] ?_
 iterate 8 refine op1 tok ?_ (hv:=by first | with_reducible exact True.intro | (first | rfl | exact dc | omega | (simp; omega); done) | omega | simp | (simp +contextual; omega))
 exact qA (AW.ret qO)
end Go.Proofs.YtgcbapchinideaaGreatDoor
