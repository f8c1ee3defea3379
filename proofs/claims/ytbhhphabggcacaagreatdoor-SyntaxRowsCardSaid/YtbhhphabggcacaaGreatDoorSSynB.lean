import Derived.Test.YtbhhphabggcacaaGreatDoorK1
namespace Go.Proofs.YtbhhphabggcacaaGreatDoor
open Sy Go
set_option maxRecDepth 100000
set_option maxHeartbeats 4000000
set_option linter.unusedSimpArgs false
set_option linter.unusedVariables false
variable {G:qM}
def qAZ {α:Type} [DecidableEq α] (l:List α) (x:α):Int:=if x∈l then (l.idxOf x:Int) else -1
theorem qQE {α:Type} [DecidableEq α] {l:List α} {k:Nat} {x:α} (hk:k<l.length) (hx:l[k]?=some x) (hno:x ∉ l.take k):qAZ l x=k:=by
 have hm:x∈l:=List.mem_of_getElem? hx
 unfold qAZ; rw [if_pos hm]
 have:l.idxOf x=k:=by
  obtain ⟨h1,h2⟩:=List.getElem?_eq_some_iff.1 hx
  have h3:=List.take_append_drop k l
  rw [← h3,List.idxOf_append,if_neg hno,List.drop_eq_getElem_cons h1,h2,List.idxOf_cons_self]
  simp; omega
 rw [this]
theorem qQD {α:Type} [DecidableEq α] (l:List α) (x:α):0≤qAZ l x↔x∈l:=by
 unfold qAZ; split <;> simp [*]
theorem qTU (l:List (List UInt8)) (s:List UInt8):AFn Tryz.prog G 75 [.sl 1 (l.map PD.str),.str s] (.int .i64 (qAZ l s)):=by
 refine AFn.introU tok Tryz.func75 (by kernel_rfl) rfl rfl ?_
 simp only [Tryz.f75,qN,List.map_cons,List.map_nil]
 refine rgn [] [[0,1]] ?_
 refine op1 tok ?_
 refine qA (AW.seq (rgn [] [[],[],[0,1,7,8]] ?_))
 iterate 3 refine op1 tok ?_
 refine qA (AW.block ?_)
 refine AW.intFactU (i:=7) rfl (by decide) ?_; intro hlen; simp at hlen
 refine AW.loop (α:=Nat) (fun k=>k≤l.length∧s ∉ l.take k) (fun k=>⟨zO 19 [(0,.p (.sl 1 (l.map PD.str))),(1,.p (.str s)),(7,.p (.int .i64 l.length)),(8,.p (.int .i64 k))],[],[],0⟩) (fun k=>l.length-k) (0) ⟨by omega,by simp⟩ ⟨qD (by simp),rfl,by simp,by simp⟩ ?_
 rintro k ⟨hk,hno⟩
 refine rgn [] [[]] ?_
 refine op1 tok ?_
 refine qA (AW.seq (cnd ?_ ?_))
 ·intro h9
  try simp at h9
  obtain ⟨x,hx⟩:∃ x,l[k]?=some x:=⟨l[k],by simp [h9]⟩
  refine AW.skip (AW.seq (AW.block (rgn [] [[],[0,1,5,7,8]] ?_)))
  iterate 2 refine op1 tok ?_
  refine qA (rgn [.str x] [[],[],[],[],[],[0,1,5,7,8,16]] ?_)
  iterate 6 refine op1 tok ?_ (hv:=by first | with_reducible exact True.intro | (simp [hx]; done) | omega | simp | (simp +contextual; omega))
  refine qA (cnd ?_ ?_)
  ·intro h16
   try simp at h16
   have hR:qAZ l s=k:=qQE h9 (h16 ▸ hx) hno
   refine rgn [] [[],[4]] ?_
   iterate 2 refine op1 tok ?_
   refine qA ?_
   exact AW.ret (qR (k:=by simp [hR]))
  intro h16
  try simp at h16
  refine AW.skip (rgz [] [[],[0,1,7,8]] ?_)
  iterate 2 refine op1 tok ?_
  refine qA ?_
  exact ⟨k+1,⟨by omega,by rw [List.take_add_one,hx]; simp; exact ⟨hno,h16⟩⟩,by omega,qD (by simp),rfl,by simp,by simp⟩
 intro h9
 try simp at h9
 have hR:qAZ l s = -1:=by rw [List.take_of_length_le h9] at hno; unfold qAZ; rw [if_neg hno]
 refine AW.exit ?_
 simp
 refine rgn [] [[]] ?_
 refine op1 tok ?_
 refine qA ?_
 exact AW.ret (qR (k:=by simp [hR]))
theorem qGP (l:List (List UInt8)) (s:List UInt8):AFn Tryz.prog G 42 [.sl 1 (l.map PD.str),.str s] (.bool (decide (s∈l))):=by
 refine AFn.introU tok Tryz.func42 (by kernel_rfl) rfl rfl ?_
 simp only [Tryz.f42,qN,List.map_cons,List.map_nil]
 have h1:=qTU (G:=G) l s
 have h2:decide (s∈l)=decide (0≤qAZ l s):=decide_eq_decide.2 (qQD l s).symm
 rw [h2]
 generalize qAZ l s=i at *
 refine rgn [] [[0,1]] ?_
 refine op1 tok ?_
 refine qA (rgn [.nilp,.int .i64 i] [[],[],[7],[],[4]] ?_)
 iterate 5 refine oq1 tok h1 ?_
 exact qA (AW.ret qR)
theorem qTV (l:List Int) (s:Int):AFn Tryz.prog G 76 [.sl 1 (l.map (PD.int .i64)),.int .i64 s] (.int .i64 (qAZ l s)):=by
 refine AFn.introU tok Tryz.func76 (by kernel_rfl) rfl rfl ?_
 simp only [Tryz.f76,qN,List.map_cons,List.map_nil]
 refine rgn [] [[0,1]] ?_
 refine op1 tok ?_
 refine qA (AW.seq (rgn [] [[],[],[0,1,7,8]] ?_))
 iterate 3 refine op1 tok ?_
 refine qA (AW.block ?_)
 refine AW.intFactU (i:=7) rfl (by decide) ?_; intro hlen; simp at hlen
 refine AW.loop (α:=Nat) (fun k=>k≤l.length∧s ∉ l.take k) (fun k=>⟨zO 19 [(0,.p (.sl 1 (l.map (PD.int .i64)))),(1,.p (.int .i64 s)),(7,.p (.int .i64 l.length)),(8,.p (.int .i64 k))],[],[],0⟩) (fun k=>l.length-k) (0) ⟨by omega,by simp⟩ ⟨qD (by simp),rfl,by simp,by simp⟩ ?_
 rintro k ⟨hk,hno⟩
 refine rgn [] [[]] ?_
 refine op1 tok ?_
 refine qA (AW.seq (cnd ?_ ?_))
 ·intro h9
  try simp at h9
  obtain ⟨x,hx⟩:∃ x,l[k]?=some x:=⟨l[k],by simp [h9]⟩
  refine AW.skip (AW.seq (AW.block (rgn [] [[],[0,1,5,7,8]] ?_)))
  iterate 2 refine op1 tok ?_
  refine qA (rgn [.int .i64 x] [[],[],[],[],[],[0,1,5,7,8,16]] ?_)
  iterate 6 refine op1 tok ?_ (hv:=by first | with_reducible exact True.intro | (simp [hx]; done) | omega | simp | (simp +contextual; omega))
  refine qA (cnd ?_ ?_)
  ·intro h16
   try simp at h16
   have hR:qAZ l s=k:=qQE h9 (h16 ▸ hx) hno
   refine rgn [] [[],[4]] ?_
   iterate 2 refine op1 tok ?_
   refine qA ?_
   exact AW.ret (qR (k:=by simp [hR]))
  intro h16
  try simp at h16
  refine AW.skip (rgz [] [[],[0,1,7,8]] ?_)
  iterate 2 refine op1 tok ?_
  refine qA ?_
  exact ⟨k+1,⟨by omega,by rw [List.take_add_one,hx]; simp; exact ⟨hno,h16⟩⟩,by omega,qD (by simp),rfl,by simp,by simp⟩
 intro h9
 try simp at h9
 have hR:qAZ l s = -1:=by rw [List.take_of_length_le h9] at hno; unfold qAZ; rw [if_neg hno]
 refine AW.exit ?_
 simp
 refine rgn [] [[]] ?_
 refine op1 tok ?_
 refine qA ?_
 exact AW.ret (qR (k:=by simp [hR]))
theorem qTY (l:List Int) (s:Int):AFn Tryz.prog G 46 [.sl 1 (l.map (PD.int .i64)),.int .i64 s] (.bool (decide (s∈l))):=by
 refine AFn.introU tok Tryz.func46 (by kernel_rfl) rfl rfl ?_
 simp only [Tryz.f46,qN,List.map_cons,List.map_nil]
 have h1:=qTV (G:=G) l s
 have h2:decide (s∈l)=decide (0≤qAZ l s):=decide_eq_decide.2 (qQD l s).symm
 rw [h2]
 generalize qAZ l s=i at *
 refine rgn [] [[0,1]] ?_
 refine op1 tok ?_
 refine qA (rgn [.nilp,.int .i64 i] [[],[],[7],[],[4]] ?_)
 iterate 5 refine oq1 tok h1 ?_
 exact qA (AW.ret qR)
theorem qTC (t:Tok) (l:List (List UInt8)):AFn Tryz.prog G 41 [t.enc,.ref [.sl 1 (l.map PD.str)]] (.bool (qAC 6 l t)):=by
 refine AFn.introU tok Tryz.func41 (by kernel_rfl) rfl rfl ?_
 simp only [Tryz.f41,qN,List.map_cons,List.map_nil]
 have h1:=qGP (G:=G) l t.text
 have h2:qAC 6 l t=(decide (t.kind=6) && decide (t.text∈l)):=rfl
 rw [h2]
 generalize decide (t.text∈l)=b at *
 refine rgn [] [[],[1,2]] ?_
 iterate 2 refine op1 tok ?_
 refine qA (rgn [.nilp,.bool b] [[],[],[],[],[2,7,8],[],[],[7,11],[],[3]] ?_)
 iterate 4 refine op1 tok ?_ (hv:=by first | with_reducible exact True.intro | (first | exact h1 | exact fun h=>⟨h,h1⟩ | (simp; exact fun h=>⟨h,h1⟩); done) | omega | simp | (simp +contextual; omega))
 iterate 4 refine op2 tok ?_ (hv:=by first | with_reducible exact True.intro | (first | exact h1 | exact fun h=>⟨h,h1⟩ | (simp; exact fun h=>⟨h,h1⟩); done) | omega | simp | (simp +contextual; omega))
 iterate 2 refine op1 tok ?_ (hv:=by first | with_reducible exact True.intro | (first | exact h1 | exact fun h=>⟨h,h1⟩ | (simp; exact fun h=>⟨h,h1⟩); done) | omega | simp | (simp +contextual; omega))
 exact qA (AW.ret qR)
theorem qSK (t:Tok) (l:List (List UInt8)):AFn Tryz.prog G 44 [t.enc,.ref [.sl 1 (l.map PD.str)]] (.bool (qAC 1 l t)):=by
 refine AFn.introU tok Tryz.func44 (by kernel_rfl) rfl rfl ?_
 simp only [Tryz.f44,qN,List.map_cons,List.map_nil]
 have h1:=qGP (G:=G) l t.text
 have h2:qAC 1 l t=(decide (t.kind=1) && decide (t.text∈l)):=rfl
 rw [h2]
 generalize decide (t.text∈l)=b at *
 refine rgn [] [[],[1,2]] ?_
 iterate 2 refine op1 tok ?_
 refine qA (rgn [.nilp,.bool b] [[],[],[],[],[2,7,8],[],[],[7,11],[],[3]] ?_)
 iterate 4 refine op1 tok ?_ (hv:=by first | with_reducible exact True.intro | (first | exact h1 | exact fun h=>⟨h,h1⟩ | (simp; exact fun h=>⟨h,h1⟩); done) | omega | simp | (simp +contextual; omega))
 iterate 4 refine op2 tok ?_ (hv:=by first | with_reducible exact True.intro | (first | exact h1 | exact fun h=>⟨h,h1⟩ | (simp; exact fun h=>⟨h,h1⟩); done) | omega | simp | (simp +contextual; omega))
 iterate 2 refine op1 tok ?_ (hv:=by first | with_reducible exact True.intro | (first | exact h1 | exact fun h=>⟨h,h1⟩ | (simp; exact fun h=>⟨h,h1⟩); done) | omega | simp | (simp +contextual; omega))
 exact qA (AW.ret qR)
theorem qTQ (t:Tok) (l:List Int):AFn Tryz.prog G 45 [t.enc,.ref [.sl 1 (l.map (PD.int .i64))]] (.bool (decide (t.kind∈l))):=by
 refine AFn.introU tok Tryz.func45 (by kernel_rfl) rfl rfl ?_
 simp only [Tryz.f45,qN,List.map_cons,List.map_nil]
 have h1:=qTY (G:=G) l t.kind
 generalize decide (t.kind∈l)=b at *
 refine rgn [] [[],[1,2]] ?_
 iterate 2 refine op1 tok ?_
 refine qA (rgn [.nilp,.bool b] [[],[],[],[7],[3]] ?_)
 iterate 5 refine oq1 tok h1 ?_
 exact qA (AW.ret qR)
theorem qTF (t:Tok):AFn Tryz.prog G 72 [t.enc] (.bool (decide (t.kind=3))):=by
 refine AFn.introU tok Tryz.func72 (by kernel_rfl) rfl rfl ?_
 simp only [Tryz.f72,qN,List.map_cons,List.map_nil]
 refine rgn [] [[],[1]] ?_
 iterate 2 refine op1 tok ?_
 refine qA (rgn [] [[],[],[],[2]] ?_)
 iterate 4 refine op1 tok ?_
 exact qA (AW.ret qR)
theorem qSX (t:Tok):AFn Tryz.prog G 93 [t.enc] (.bool true):=by
 refine AFn.introU tok Tryz.func93 (by kernel_rfl) rfl rfl ?_
 simp only [Tryz.f93,qN,List.map_cons,List.map_nil]
 refine rgn [] [[],[3]] ?_
 iterate 2 refine op1 tok ?_
 refine qA (rgn [] [[]] ?_)
 refine op1 tok ?_
 exact qA (AW.ret qR)
theorem qLS {s:PS} (h:(kD s).kind≠0):0<s.left.length:=by
 unfold kD at h
 split at h
 ·exact absurd rfl h
 cases hl:s.left with
 | nil=>rw [hl] at h; exact absurd rfl h
 | cons t l=>simp
theorem qJU (s:PS) (g:FuncId) (cs:List PD) (f:Tok→Bool) (hf:∀ t:Tok,AFn Tryz.prog G g [t.enc,.ref cs] (.bool (f t))):AX Tryz.prog G 40 [.ptr 2 0,.func (.func g) [] [.cptr cs]] [(2,.vars 42 (psC s)),(3,.row 36 8 (s.nodes.map Nd.enc))] (.tuple [.agg (qZ f s).1.1.cells,.p (.bool (qZ f s).1.2)]) [2,3] [(2,.vars 42 (psC ((qZ f s).2))),(3,.row 36 8 (((qZ f s).2).nodes.map Nd.enc))]:=by
 refine AX.introU tok 900 Tryz.func40 (by kernel_rfl) rfl rfl ?_
 simp only [Tryz.f40,qN,List.map_cons,List.map_nil]
 have hN:qZ f s=if (kD s).kind=0∨f (kD s)=false then ((qBM,false),s) else ((kD s,true),{ s with left:=s.left.drop 1 }):=rfl
 rw [hN]
 have hp:=qPP (G:=G) s
 have hft:=hf (kD s)
 have hpos:=qLS (s:=s)
 generalize kD s=t at *
 generalize f t=b at *
 simp at hft
 refine rgn [] [[],[0,1,4]] ?_
 iterate 2 refine op1 tok ?_
 refine qA (rgn [] [[]] ?_)
 refine op1 tok ?_
 refine qF ?_
 refine qE.stepK [0,1,4,8] (qK rfl hp (by simp)) (by conv=>lhs; simp) rfl ?_
 refine qE.run [[],[0,1,4,6]] ?_
 iterate 2 refine op1 tok ?_
 refine qA (AW.seq (rgn [.nilp,.bool b] [[],[],[],[],[0,4,6,12,13],[],[],[],[0,4,6,17]] ?_))
 iterate 4 refine op1 tok ?_ (hv:=by first | with_reducible exact True.intro | (first | exact hft | (simp; exact fun h=>⟨h,hft⟩); done) | omega | simp | (simp +contextual; omega))
 iterate 4 refine op2 tok ?_ (hv:=by first | with_reducible exact True.intro | (first | exact hft | (simp; exact fun h=>⟨h,hft⟩); done) | omega | simp | (simp +contextual; omega))
 refine op1 tok ?_ (hv:=by first | with_reducible exact True.intro | (first | exact hft | (simp; exact fun h=>⟨h,hft⟩); done) | omega | simp | (simp +contextual; omega))
 refine qA (cnd ?_ ?_)
 ·intro h17
  try simp at h17
  rw [if_pos (by simpa using h17)]
  refine rgn [] [[],[],[4,5]] ?_
  iterate 3 refine op1 tok ?_
  refine qA ?_
  exact AW.ret (qP (k:=by simp [qBM]))
 intro h17
 try simp at h17
 rw [if_neg (by simpa using h17)]
 have hpos:=hpos (by simpa using h17.1)
 have hdr:List.map Tok.enc (s.left.drop 1)=(List.map Tok.enc s.left).drop 1:=List.map_drop
 have hta:List.take s.left.length (List.map Tok.enc s.left)=List.map Tok.enc s.left:=List.take_of_length_le (by simp)
 refine AW.skip (rgn [] [[],[],[],[],[4,6,19,23],[],[],[],[4,6]] ?_)
 iterate 9 refine op1 tok ?_ (h:=by intro C; conv=>lhs; simp [hta])
 refine qA (rgn [] [[],[],[4,5]] ?_)
 iterate 3 refine op1 tok ?_
 refine qA ?_
 exact AW.ret (qP (k:=by simp [hdr]))
theorem qMB (s:PS) (g:FuncId) (f:Tok→Bool) (hf:∀ t:Tok,AFn Tryz.prog G g [t.enc] (.bool (f t))):AX Tryz.prog G 40 [.ptr 2 0,.p (.fn g)] [(2,.vars 42 (psC s)),(3,.row 36 8 (s.nodes.map Nd.enc))] (.tuple [.agg (qZ f s).1.1.cells,.p (.bool (qZ f s).1.2)]) [2,3] [(2,.vars 42 (psC ((qZ f s).2))),(3,.row 36 8 (((qZ f s).2).nodes.map Nd.enc))]:=by
 refine AX.introU tok 900 Tryz.func40 (by kernel_rfl) rfl rfl ?_
 simp only [Tryz.f40,qN,List.map_cons,List.map_nil]
 have hN:qZ f s=if (kD s).kind=0∨f (kD s)=false then ((qBM,false),s) else ((kD s,true),{ s with left:=s.left.drop 1 }):=rfl
 rw [hN]
 have hp:=qPP (G:=G) s
 have hft:=hf (kD s)
 have hpos:=qLS (s:=s)
 generalize kD s=t at *
 generalize f t=b at *
 simp at hft
 refine rgn [] [[],[0,1,4]] ?_
 iterate 2 refine op1 tok ?_
 refine qA (rgn [] [[]] ?_)
 refine op1 tok ?_
 refine qF ?_
 refine qE.stepK [0,1,4,8] (qK rfl hp (by simp)) (by conv=>lhs; simp) rfl ?_
 refine qE.run [[],[0,1,4,6]] ?_
 iterate 2 refine op1 tok ?_
 refine qA (AW.seq (rgn [.nilp,.bool b] [[],[],[],[],[0,4,6,12,13],[],[],[],[0,4,6,17]] ?_))
 iterate 4 refine op1 tok ?_ (hv:=by first | with_reducible exact True.intro | (first | exact hft | (simp; exact fun h=>⟨h,hft⟩); done) | omega | simp | (simp +contextual; omega))
 iterate 4 refine op2 tok ?_ (hv:=by first | with_reducible exact True.intro | (first | exact hft | (simp; exact fun h=>⟨h,hft⟩); done) | omega | simp | (simp +contextual; omega))
 refine op1 tok ?_ (hv:=by first | with_reducible exact True.intro | (first | exact hft | (simp; exact fun h=>⟨h,hft⟩); done) | omega | simp | (simp +contextual; omega))
 refine qA (cnd ?_ ?_)
 ·intro h17
  try simp at h17
  rw [if_pos (by simpa using h17)]
  refine rgn [] [[],[],[4,5]] ?_
  iterate 3 refine op1 tok ?_
  refine qA ?_
  exact AW.ret (qP (k:=by simp [qBM]))
 intro h17
 try simp at h17
 rw [if_neg (by simpa using h17)]
 have hpos:=hpos (by simpa using h17.1)
 have hdr:List.map Tok.enc (s.left.drop 1)=(List.map Tok.enc s.left).drop 1:=List.map_drop
 have hta:List.take s.left.length (List.map Tok.enc s.left)=List.map Tok.enc s.left:=List.take_of_length_le (by simp)
 refine AW.skip (rgn [] [[],[],[],[],[4,6,19,23],[],[],[],[4,6]] ?_)
 iterate 9 refine op1 tok ?_ (h:=by intro C; conv=>lhs; simp [hta])
 refine qA (rgn [] [[],[],[4,5]] ?_)
 iterate 3 refine op1 tok ?_
 refine qA ?_
 exact AW.ret (qP (k:=by simp [hdr]))
end Go.Proofs.YtbhhphabggcacaaGreatDoor
