import Derived.Test.YtcfcfblbpnpclaaGreatDoorSOnce
namespace Go.Proofs.YtcfcfblbpnpclaaGreatDoor
open Sy Go
set_option linter.unusedSimpArgs false
set_option linter.unusedVariables false
namespace Sy
theorem Rel.drew {c:Ctx} {M:qQ} {μ:Mu} {st:St} {tmps:Array Value} {w:World} (r:Rel c M μ st tmps w):Rel c M μ st tmps w.drew:=r.same (Grows.drew w)
end Sy
variable {G:qK}
abbrev wP (s:Int):List V:=[.p (.int .i64 5),.p (.int .u32 0),.p (.int .i32 s),.p (.int .u32 0),.nilsl]
abbrev qCE (d s:Int):List V:=[.p (.int .i64 5),.p (.int .u32 d),.p (.int .i32 s),.p (.int .u32 0),.ms 975]
abbrev qIQ:List (Nat × Box):=[(975,.prow 78 [.ptr 961 0,.ptr 962 0,.ptr 963 0,.ptr 964 0,.ptr 965 0]),(961,.vars 77 [.p (.int .i64 0),.p (.int .i64 0),.p (.int .i64 0)]),(962,.vars 77 [.p (.int .i64 0),.p (.int .i64 0),.p (.int .i64 0)]),(963,.vars 77 [.p (.int .i64 0),.p (.int .i64 0),.p (.int .i64 0)]),(964,.vars 77 [.p (.int .i64 0),.p (.int .i64 0),.p (.int .i64 0)]),(965,.vars 77 [.p (.int .i64 0),.p (.int .i64 0),.p (.int .i64 0)])]
theorem qIC:AX Tryz.prog G 48 [.ptr 2 1,.func (.func 49) [] [.ptr 3 0]] [(2,.vars 71 (wP 0)),(3,.vars 44 [.ptr 2 0])] (.tuple []) [2,3] ((2,.vars 71 (qCE 1 0))::(3,.vars 44 [.ptr 2 0])::qIQ):=by
 have hclo:=qLV (G:=G)
 refine ⟨⟨_,_,Tryz.func48,by kernel_rfl,rfl⟩,fun M μ w vs hg rel => ?_⟩
 obtain ⟨v0,v1,rfl⟩:∃ v0 v1,vs = #[v0,v1]:=by
  have h:=rel.slots.1
  exact ⟨vs[0]'(by rw [h]; decide),vs[1]'(by rw [h]; decide),by
   apply Array.ext
   ·simpa using h
   intro i h1 h2
   have:i=0∨i=1:=by simp at h2; omega
   rcases this with rfl | rfl <;> rfl⟩
 have r0:=rel.slots.2 0 v0 (.ptr 2 1) rfl rfl
 have r1:=rel.slots.2 1 v1 (.func (.func 49) [] [.ptr 3 0]) rfl rfl
 cases r0 with
 | @ptr _ _ b hb =>
 cases r1 with
 | @func _ fa ca _ _ g1 g2 g3 g4 =>
 obtain rfl:fa = #[]:=Array.eq_empty_of_size_eq_zero (by simpa using g1)
 obtain ⟨c0,rfl⟩:∃ c0,ca = #[c0]:=⟨ca[0]'(by rw [g2]; decide),by
  apply Array.ext
  ·simpa using g2
  intro i h1 h2
  have:i=0:=by simp at h2; omega
  subst this; rfl⟩
 have rc:=g4 0 c0 (.ptr 3 0) rfl rfl
 obtain ⟨u1,h1,q1,f1⟩:=yA rel hb (e:=71) (cells:=wP 0) rfl (off:=1) rfl
 obtain ⟨u2,h2,q2,f2⟩:=yA rel hb (e:=71) (cells:=wP 0) rfl (off:=2) rfl
 have q1':=q1.p_inv
 have q2':=q2.p_inv
 cases q1'
 cases q2'
 have rel1:=jK rel hb (e:=71) (cells:=wP 0) rfl (off:=2) (by decide) (u := .int .i32 1) (x := .p (.int .i32 1)) (.p (Rd.intOf (by decide) (by decide))) rfl
 have hk:∀ i,qI i ([(2,Box.vars 71 (wP 1)),(3,.vars 44 [.ptr 2 0])]:List (Nat × Box))=qI i ([(2,Box.vars 71 (wP 0)),(3,.vars 44 [.ptr 2 0])]:List (Nat × Box)):=fun i=>rfl
 have hlent:zI μ ([(2,Box.vars 71 (wP 1)),(3,.vars 44 [.ptr 2 0])]:List (Nat × Box))=zI μ ([(2,Box.vars 71 (wP 0)),(3,.vars 44 [.ptr 2 0])]:List (Nat × Box)):=rfl
 obtain ⟨w1,hw1⟩:∃ w1,w.setCell ⟨b,2,none⟩ (.int .i32 1)=w1:=⟨_,rfl⟩
 have hsz:w1.heap.size=w.heap.size:=by rw [← hw1]; simp [World.setCell]
 rw [hw1] at rel1
 have relc:Rel ⟨w1.heap.size,w1,M,μ,zI μ [(2,.vars 71 (wP 1)),(3,.vars 44 [.ptr 2 0])]⟩ M μ ⟨[.ptr 3 0],[2,3],[(2,.vars 71 (wP 1)),(3,.vars 44 [.ptr 2 0])],0⟩ #[c0] w1 :=
  ⟨rel1.mem,fun _ _ _ h=>h,fun _ _ _=>rfl,⟨rfl,fun i u x hu hx=>by
   cases i with
   | zero=>simp at hu hx; subst hu; subst hx; exact rc
   | succ i=>simp at hx⟩,fun _ _=>rfl,rel1.box,rel1.nodup,rel1.inj,fun i b' hi hb'=>⟨.inr ⟨i,hi,hb'⟩,(rel1.own i b' hi hb').2⟩,Nat.le_refl _,Kept.refl _ _⟩
 have hgx:=hg.ctxL μ (zI μ [(2,.vars 71 (wP 0)),(3,.vars 44 [.ptr 2 0])]) (fun b' hb' o=>by obtain ⟨i,hi,hb2⟩:=hb'; exact (rel.own i b' hi hb2).2.2 o)
 have hgc:=hgx.go rel1
 have hcall:=hclo.2 M μ w1 #[c0] hgc relc
 refine (qSG b 1 #[c0] (fun w2=>∃ M' μ',Rel ⟨w1.heap.size,w1,M,μ,zI μ [(2,.vars 71 (wP 1)),(3,.vars 44 [.ptr 2 0])]⟩ M' μ' ⟨[.tuple []],[2,3],(2,.vars 71 (qCE 0 1))::(3,.vars 44 [.ptr 2 0])::qIQ,0⟩ #[.tuple #[]] w2) w h1 h2 f2 ?_ ?_).mono ?_
 ·rw [hw1]
  refine hcall.mono ?_
  rintro e w2 ⟨v,M',μ',rfl,r2⟩
  have hv:=r2.slots.2 0 v (.tuple []) rfl rfl
  obtain rfl:v = .tuple #[]:=by
   cases hv with
   | tuple s1 _=>exact congrArg Value.tuple (Array.eq_empty_of_size_eq_zero (by simpa using s1))
  exact ⟨rfl,M',μ',r2⟩
 ·rintro w2 ⟨M',μ',r2⟩
  have hb2:(μ' 2).blk=some b:=(Loc.at_blk (r2.pins 2 (by simp))).trans hb
  obtain ⟨x1,k1,p1,z1⟩:=yA r2 hb2 (e:=71) (cells:=qCE 0 1) rfl (off:=1) rfl
  obtain ⟨x2,k2,p2,z2⟩:=yA r2 hb2 (e:=71) (cells:=qCE 0 1) rfl (off:=2) rfl
  have p2':=p2.p_inv
  cases p2'
  exact ⟨⟨x1,k1⟩,z1,k2,z2⟩
 rintro e w' ⟨rfl,w2,⟨M',μ',r2⟩,rfl⟩
 have hb2:(μ' 2).blk=some b:=(Loc.at_blk (r2.pins 2 (by simp))).trans hb
 have r3:=jK r2.drew hb2 (e:=71) (cells:=qCE 0 1) rfl (off:=1) (by decide) (u := .int .u32 1) (x := .p (.int .u32 1)) (.p (Rd.intOf (by decide) (by decide))) rfl
 have r4:=jK r3 hb2 (e:=71) (cells:=qCE 1 1) rfl (off:=2) (by decide) (u := .int .i32 0) (x := .p (.int .i32 0)) (.p (Rd.intOf (by decide) (by decide))) rfl
 refine ⟨.tuple #[],M',μ',rfl,⟨r4.mem,r4.ext,fun b' o hb'=>r4.old b' o ?_,r4.slots,r4.pins,r4.box,r4.nodup,r4.inj,fun i b' hi hb' => ?_, ?_, ?_⟩⟩
 ·rintro (h | h)
  ·exact hb' (.inl (by rw [← hsz]; exact h))
  exact hb' (.inr h)
 ·obtain ⟨s1,s2,s3⟩:=r4.own i b' hi hb'
  refine ⟨?_,s2,s3⟩
  rcases s1 with h | h
  ·exact .inl (by rw [← hsz]; exact h)
  exact .inr h
 ·exact Nat.le_trans (Nat.le_of_eq hsz.symm) r4.size
 have hk1:=rel1.below
 have hk2:=r4.below
 have hmine:Ctx.mine ⟨w1.heap.size,w1,M,μ,zI μ [(2,.vars 71 (wP 1)),(3,.vars 44 [.ptr 2 0])]⟩=Ctx.mine ⟨w.heap.size,w,M,μ,zI μ [(2,.vars 71 (wP 0)),(3,.vars 44 [.ptr 2 0])]⟩:=by
  funext b'
  show (w1.heap.size≤b'∨_)=(w.heap.size≤b'∨_)
  rw [hsz]; rfl
 exact hk1.trans (by rw [← hmine]; exact hk2)
end Go.Proofs.YtcfcfblbpnpclaaGreatDoor
