import Derived.Test.YtgcbapchinideaaGreatDoorK5
import Derived.HandedShaped
import Derived.Shelf.Vars
set_option linter.all false
namespace Go.Proofs.YtgcbapchinideaaGreatDoor
open Sy Go
def mxG (gm:Nat) (m:Int) (G0:qT):qT:=fun g=>if g=gm then some [.int .i64 m] else G0 g
theorem zXX (gm:Nat) (m:Int) (G0:qT):qOP gm (mxG gm m G0):=⟨m,by simp[mxG]⟩
theorem wCB {g3 g4 gm:Nat} {m:Int} {G0:qT} (h:zGJ g3 g4 G0) (h3:g3≠gm) (h4:g4≠gm):zGJ g3 g4 (mxG gm m G0):=by
 obtain⟨a,b⟩:=h;exact⟨by simp only[mxG];rw[bD h3];exact a,by simp only[mxG];rw[bD h4];exact b⟩
theorem wCC {gm:Nat} {m:Int} {G0:qT} {W:World} (h:GOK G0 (qBB W) W) (hm:W.cell? ⟨gm,0,none⟩=some (.int .i64 m)) (h1:IntKind.i64.min<=m) (h2:m<=IntKind.i64.max):GOK (mxG gm m G0) (qBB W) W:=by
 have hc:qBB W gm 0=some (.int .i64 m):=hm;refine⟨fun g cs hg => ?_,fun g cs hg hi => ?_⟩
 ·simp only[mxG]at hg;split at hg
  ·rename_i e;subst e;cases hg;refine⟨fun j d hd => ?_,fun j d w hd hw => ?_⟩
   ·match j with
    | 0=>exact⟨_,hc,rfl⟩
    | j+1=>simp at hd
   match j with
   | 0 =>
    cases hd;have:=hw.symm.trans hc;cases this;exact .int h1 h2
   | j+1=>simp at hd
  exact h.1 g cs hg
 simp only[mxG]at hg;split at hg
 ·cases hg;cases hi
 exact h.2 g cs hg hi
theorem zNM {P:Program} {w:World} {g:Nat} {t:TypeId} {zero:Array Value} {k:IntKind} (h:w.ShapedOpen P) (hg:g<P.globals.size)
  (h0:((begin P (fun _ _=>0) default).world.heap[g]?).bind Obj.row?=some (zero,t)) (hz:zero.size=1)
  (hb:P.buildable t=true) (hc:P.cellTypes P.depth t=some [t]) (hu:P.underlying t=some (.int k)):∃ m,w.cell? ⟨g,0,none⟩=some (.int k m)/\k.min<=m/\m<=k.max:=by
 obtain⟨cs,hh,hs,hr⟩:=h.1 g zero t hg h0;obtain⟨ts,hts,_,hall⟩:=hr hb;rw[hc]at hts;cases hts;have h1:0<cs.size:=by omega
 obtain⟨u,hu',hok⟩:=hall 0 cs[0] (by simp[h1]);have:u=t:=by simpa using hu'.symm
 subst this;have hcell:w.cell? ⟨g,0,none⟩=some cs[0]:=by simp[World.cell?,hh,h1]
 rw[hcell];unfold Cell.ok at hok;rw[hu]at hok;cases hv:cs[0] <;> rw[hv]at hok <;> simp at hok
 case int k' n=>exact⟨n,by rw[hok.1],hok.2.1,hok.2.2⟩
theorem qUX {H:Type} {enc:TypeId × Value->H} {a:Assume} {C:Checked} {os:Os} {f:FuncId} {fn:Func} {s:ChangeSpec} {conds:List PathCond} {apart fresh handsOn again:Bool} {X:World->Array Value->Prop}
  (hX:∀ (w w':World) (args:Array Value),w.heap=w'.heap->X w args->X w' args) (own:ownKnob C.prog.godebug=none) (started:os.Started) (noInit:C.prog.inits.idxOf? f=none) (hfn:C.prog.funcs[f]?=some fn)
  (witness:∃ (w:World) (tape:Tape) (i:Input),w.os=os/\(w.forCall tape i).Shaped C.prog/\i.vars=[]/\Input.okWide C.prog (w.forCall tape i) .any w.heap.size f i /\
   ((s.pre enc C.prog fn conds apart (w.forCall tape i).memory i.args/\X (w.forCall tape i).memory i.args)/\sizedMet enc C.prog fn (OpenSpec.ofChange s) apart (w.forCall tape i).memory i.args)/\a.holds C.prog (lone (Frame.enter C.prog f i.args .normal) [] (w.forCall tape i)))
  (contract:∀ (W:World) (base:Nat) (args:Array Value) (ds gs:List (DataW H)) (before:List MemPlace),
   (∀ (j:Nat) t v,fn.params[j]?=some t->args[j]?=some v->Value.okWide C.prog W .any base t v) ->
   DataW.Whole enc C.prog fn.params.toList s.vars apart W args.toList ds gs before ->
   (DataW.weightsEach C.prog (fn.params.toList++s.plain.varTypes C.prog) (ds++gs)).all (· ≤ reachBytes)=true->X W args->W.ShapedOpen C.prog ->
   Calls C.prog f args W fun e W'=>∃ v,e = .returned v/\s.post enc C.prog fn apart fresh handsOn again W args v W') :
  ReturnsInHanded a C os f .any (fun w args=>(s.pre enc C.prog fn conds apart w args/\X w args)/\sizedMet enc C.prog fn (OpenSpec.ofChange s) apart w args) (s.post enc C.prog fn apart fresh handsOn again):=by
 refine returnsInHanded_of_calls own started noInit witness ?_;intro w tape i _ hsh _ hok hpre _;obtain⟨_,_,_,fn',hfn',_,_,_,_,hval⟩:=hok;obtain rfl:fn'=fn:=Option.some.inj (hfn'.symm.trans hfn);obtain⟨⟨⟨ds,gs,before,hw,hc⟩,hx⟩,hz⟩:=hpre;refine(contract (w.forCall tape i) w.heap.size i.args ds gs before hval (DataW.Whole.of_heap (w':=w.forCall tape i) (by rfl) hw) (hz.weights hw) (hX _ _ _ (by rfl) hx) hsh).mono fun e W' ⟨v,he,hp⟩ => ?_;subst he;exact ChangeSpec.post_blind hp
end Go.Proofs.YtgcbapchinideaaGreatDoor
