import Derived.WalkKit
import Derived.Deep.AppendSrc
set_option linter.all false
namespace Go.Proofs.YtgcbapchinideaaGreatDoor
abbrev bA := @List.map_cons
abbrev bB := @List.getElem?_eq_some_iff
abbrev bC := @List.map_nil
abbrev bD := @if_neg
abbrev bE := @if_pos
abbrev bF := @Option.map_eq_some_iff
abbrev bG := @List.getElem?_map
abbrev bH := @List.mem_of_getElem?
abbrev bI := @Bool.and_eq_true
abbrev bJ := @List.getD_eq_getElem?_getD
abbrev bK := @List.take_of_length_le
abbrev bL := @List.mem_append
abbrev bM := @List.mem_cons
abbrev bP := @Nat.le_refl
abbrev bQ := @List.length_drop
abbrev bR := @List.all_eq_true
abbrev bS := @List.eq_nil_of_length_eq_zero
abbrev bU := @List.length_append
abbrev bV := @List.length_pos_iff
abbrev bW := @List.getElem?_take
abbrev bX := @List.take_add_one
abbrev bY := @decide_eq_true_eq
abbrev bZ := @List.getElem?_drop
abbrev cA := @List.length_cons
abbrev cB := @List.mem_of_mem_take
abbrev cC := @Array.getElem?_eq_some_iff
abbrev cD := @List.append_assoc
abbrev cE := @List.take_append_drop
abbrev cF := @List.getElem?_append
abbrev cG := @List.mem_singleton
abbrev cH := @Nat.add_zero
abbrev cI := @List.getElem?_eq_getElem
abbrev cJ := @List.drop_eq_getElem_cons
abbrev cK := @List.length_take
abbrev cL := @List.getElem?_eq_none
abbrev cM := @Nat.mul_le_mul_right
abbrev cN := @List.getElem?_toArray
abbrev cO := @List.mem_map
abbrev cP := @List.mem_iff_getElem
abbrev cQ := @List.mem_of_mem_drop
abbrev cR := @List.append_nil
abbrev cT := @List.cons_append
abbrev cU := @List.getElem?_append_right
abbrev cV := @List.length_map
abbrev cW := @List.getElem?_append_left
abbrev cX := @Bool.or_eq_true
abbrev cY := @Nat.add_sub_cancel
abbrev cZ := @List.mem_cons_of_mem
abbrev dA := @List.length_singleton
abbrev dB := @Nat.le_trans
abbrev dC := @Nat.add_mul
abbrev dD := @beq_iff_eq
abbrev dE := @List.map_congr_left
abbrev dF := @List.dropWhile_sublist
abbrev dG := @List.drop_drop
abbrev dH := @List.nil_append
abbrev dI := @Nat.pow_le_pow_right
abbrev dJ := @List.all_append
abbrev dK := @Nat.zero_add
abbrev dL := @List.findIdx?_eq_some_iff_getElem
abbrev dM := @Option.getD_some
abbrev dN := @List.length_nil
abbrev dO := @List.getElem?_set
abbrev dP := @List.ext_getElem?
abbrev dQ := @List.drop_eq_nil_of_le
abbrev dR := @Nat.lt_of_lt_of_le
abbrev dS := @List.mem_iff_getElem?
abbrev dT := @List.map_map
abbrev dU := @UInt8.toNat_inj
abbrev dV := @List.getElem_mem
abbrev dW := @List.take_length
abbrev dX := @List.take_append_of_le_length
abbrev dY := @Array.length_toList
abbrev dZ := @decide_eq_false_iff_not
abbrev eA := @Int.fdiv_eq_ediv_of_nonneg
abbrev eB := @Nat.mul_one
abbrev eC := @Bool.false_eq_true
abbrev eD := @List.replicate_succ'
abbrev eE := @List.pairwise_append
abbrev eF := @List.all_cons
abbrev eG := @List.findIdx?_eq_none_iff
abbrev eH := @List.dropWhile_cons
abbrev eI := @Nat.one_mul
abbrev eJ := @Array.getElem?_toList
abbrev eK := @List.mem_append_right
abbrev eL := @List.mem_range
abbrev eM := @Bool.eq_iff_iff
abbrev eN := @List.mem_filter
abbrev eO := @List.length_set
abbrev eP := @Nat.eq_zero_or_pos
abbrev eQ := @Nat.mod_lt
abbrev eR := @List.length_eq_zero_iff
abbrev eS := @Array.getElem?_append_left
abbrev eT := @of_decide_eq_true
abbrev eU := @List.replicate_succ
abbrev eV := @Option.map_some
abbrev eW := @Nat.mul_add
abbrev eX := @Array.getElem?_append
abbrev eY := @List.mem_replicate
abbrev eZ := @Nat.pow_succ
abbrev fA := @Bool.and_false
abbrev fB := @List.getElem?_set_ne
abbrev fC := @Nat.zero_le
abbrev fD := @List.getLast?_eq_some_getLast
abbrev fE := @List.mem_append_left
abbrev fF := @Bool.not_eq_true'
abbrev fG := @List.nodup_cons
abbrev fH := @List.foldl_cons
abbrev fI := @List.dropLast_concat_getLast
abbrev fJ := @List.takeWhile_cons
abbrev fK := @Nat.mul_comm
abbrev fL := @List.zipWith_cons_cons
abbrev fM := @Nat.add_assoc
abbrev fO := @Nat.le_of_not_lt
abbrev fP := @List.drop_length
abbrev fQ := @Array.getElem?_map
abbrev fR := @List.isPrefixOf_iff_prefix
abbrev fS := @List.pairwise_cons
abbrev fT := @UInt8.lt_iff_toNat_lt
abbrev fU := @List.getLastD_eq_getLast?
abbrev fV := @Nat.min_eq_left
abbrev fW := @List.map_append
abbrev fX := @List.size_toArray
abbrev fY := @Nat.add_comm
abbrev fZ := @Bool.or_eq_false_iff
abbrev gA := @List.take_succ_eq_append_getElem
abbrev gB := @List.mem_of_getLast?
abbrev gC := @Array.getElem?_setIfInBounds_ne
abbrev gD := @List.takeWhile_append_dropWhile
abbrev gE := @List.length_reverse
abbrev gF := @Array.toList_map
abbrev gG := @Array.eq_empty_of_size_eq_zero
abbrev gH := @Bool.false_and
abbrev gI := @List.getElem?_cons_succ
abbrev gJ := @Nat.pow_pos
abbrev gK := @List.getElem?_set_self
abbrev gL := @Nat.sub_self
abbrev gM := @UInt8.toNat_ofNat'
abbrev gO := @Array.getElem?_setIfInBounds
abbrev gP := @Bool.and_true
abbrev gQ := @Nat.mul_assoc
abbrev gR := @Nat.div_lt_iff_lt_mul
abbrev gS := @List.nodup_append
abbrev gT := @List.foldl_append
abbrev gU := @List.contains_eq_mem
abbrev gV := @List.drop_zero
abbrev gW := @List.exists_cons_of_ne_nil
abbrev gX := @List.cons_merge_cons
abbrev gY := @decide_eq_true
abbrev gZ := @List.map_set
abbrev iA := @Bool.not_eq_true
abbrev iB := @List.mem_reverse
abbrev iC := @Nat.mul_succ
abbrev iD := @List.getElem?_range
abbrev iE := @List.drop_succ_cons
abbrev iF := @Nat.mul_le_mul_left
abbrev iG := @List.head?_cons
abbrev iH := @Int.le_refl
abbrev iI := @Int.ofNat_tmod
abbrev iJ := @bne_iff_ne
end Go.Proofs.YtgcbapchinideaaGreatDoor
namespace Go.Proofs.YtgcbapchinideaaGreatDoor.Sy
open Go
inductive PD where
 | bool (b:Bool)
 | int (k:IntKind) (n:Int)
 | str (s:List UInt8)
 | agg (cs:List PD)
 | sl (sz:Nat) (es:List PD)
 | tup (ds:List PD)
 | fn (f:FuncId)
 | clo (f:FuncId) (cs:List PD)
 | ref (cs:List PD)
 | nilp
 | nilf
 | noerr
 | err
 deriving Inhabited
def PD.cells:PD->List PD
 | .agg cs=>cs
 | d=>[d]
abbrev qY:=Nat->Nat->Option Value
inductive Rd (M:qY):Value->PD->Prop
 | bool (b:Bool):Rd M (.bool b) (.bool b)
 | int {k:IntKind} {n:Int}:k.min<=n->n<=k.max->Rd M (.int k n) (.int k n)
 | str {b:ByteArray} {s:List UInt8}:b.data.toList=s->s.length<=maxLen->Rd M (.string b) (.str s)
 | agg {arr:Array Value} {cs:List PD}:arr.size=cs.length->(∀ (i:Nat) u,arr[i]?=some u->u.oneCell'=true)->(∀ (i:Nat) u d,arr[i]?=some u->cs[i]?=some d->Rd M u d)->Rd M (.agg arr) (.agg cs)
 | tup {arr:Array Value} {cs:List PD}:arr.size=cs.length->(∀ (i:Nat) u d,arr[i]?=some u->cs[i]?=some d->Rd M u d)->Rd M (.tuple arr) (.tup cs)
 | sl {a : Option Addr} {n c sz : Nat} {es : List PD} (b o : Nat) : n = es.length → n ≤ c → c ≤ maxLen → (n ≠ 0 → a = some ⟨b, o, none⟩) →
   (∀ (i:Nat) e,es[i]?=some e->e.cells.length=sz) ->
   (∀ (i:Nat) e j,es[i]?=some e->j<sz->∃ u,M b (o+i * sz+j)=some u/\u.oneCell'=true) ->
   (∀ (i:Nat) e (j:Nat) d u,es[i]?=some e->e.cells[j]?=some d->M b (o+i * sz+j)=some u->Rd M u d)->Rd M (.slice a n c) (.sl sz es)
 | fn (f:FuncId):Rd M (.func (.func f) #[] #[]) (.fn f)
 | clo {f:FuncId} {arr:Array Value} {cs:List PD}:arr.size=cs.length->(∀ (i:Nat) u d,arr[i]?=some u->cs[i]?=some d->Rd M u d)->Rd M (.func (.func f) #[] arr) (.clo f cs)
 | ref {b o:Nat} {cs:List PD}:(∀ (j:Nat) d,cs[j]?=some d->∃ u,M b (o+j)=some u/\u.oneCell'=true)->(∀ (j:Nat) d u,cs[j]?=some d->M b (o+j)=some u->Rd M u d)->Rd M (.pointer (some ⟨b,o,none⟩)) (.ref cs)
 | nilp:Rd M (.pointer none) .nilp
 | nilf:Rd M .nilFunc .nilf
 | noerr:Rd M .nilIface .noerr
 | err {t:TypeId} {v:Value}:Rd M (.iface t v) .err
theorem Rd.mono {M M':qY} (h:∀ b o v,M b o=some v->M' b o=some v) {u:Value} {d:PD} (r:Rd M u d):Rd M' u d:=by
 induction r with
 | bool b=>exact .bool b
 | int h1 h2=>exact .int h1 h2
 | str h1 h2=>exact .str h1 h2
 | agg h1 h2 _ ih=>exact .agg h1 h2 ih
 | tup h1 _ ih=>exact .tup h1 ih
 | @sl a n c sz es b o h1 h2 h3 h4 h5 h6 _ ih =>
  refine .sl b o h1 h2 h3 h4 h5 (fun i e j he hj => ?_) (fun i e j d u he hd hu => ?_)
  ·obtain⟨u,hu,h1⟩:=h6 i e j he hj;exact⟨u,h _ _ _ hu,h1⟩
  have hj:j<sz:=by
   rw[<-h5 i e he];exact(bB.1 hd).1
  obtain⟨u',hu',_⟩:=h6 i e j he hj;have:=h _ _ _ hu';rw[this]at hu;cases hu;exact ih i e j d _ he hd hu'
 | fn f=>exact .fn f
 | clo h1 _ ih=>exact .clo h1 ih
 | @ref b o cs h1 _ ih =>
  refine .ref (fun j d hd => ?_) (fun j d u hd hu => ?_)
  ·obtain⟨u,hu,hc⟩:=h1 j d hd;exact⟨u,h _ _ _ hu,hc⟩
  obtain⟨u',hu',_⟩:=h1 j d hd;have:=h _ _ _ hu';rw[this]at hu;cases hu;exact ih j d _ hd hu'
 | nilp=>exact .nilp
 | nilf=>exact .nilf
 | noerr=>exact .noerr
 | err=>exact .err
inductive V where
 | p (d:PD)
 | dead
 | nilsl
 | ptr (id off:Nat)
 | rptr (id i sz off:Nat)
 | tl (id n sz:Nat)
 | cptr (cs:List PD)
 | ms (id:Nat)
 | it (id:Nat)
 | func (fn:Fn) (first cap:List V)
 | agg (cs:List V)
 | tuple (vs:List V)
 | when (b:Bool) (x:V)
 deriving Inhabited
structure Loc where
 blk:Option Nat
 val:Value:=undef
 sub:List Nat:=[]
 deriving Inhabited
abbrev Mu:=Nat->Loc
def Loc.at (l:Loc):Option Nat × Value:=(l.blk,l.val)
theorem nD {a b:Loc} (h:a.at=b.at):a.blk=b.blk:=congrArg Prod.fst h
theorem oD {a b:Loc} (h:a.at=b.at):a.val=b.val:=congrArg Prod.snd h
def Loc.has (l:Loc) (b:Nat):Prop:=l.blk=some b\/b∈l.sub
theorem lZ {l:Loc} {b:Nat} (hs:l.sub=[]) (h:l.has b):l.blk=some b:=by
 rcases h with h|h
 ·exact h
 rw[hs]at h;cases h
inductive RV (M:qY) (μ:Mu):Value->V->Prop
 | p {u d}:Rd M u d->RV M μ u (.p d)
 | dead {u}:RV M μ u .dead
 | nilsl:RV M μ (.slice none 0 0) .nilsl
 | ptr {id off b}:(μ id).blk=some b->RV M μ (.pointer (some ⟨b,off,none⟩)) (.ptr id off)
 | rptr {id i sz off b}:(μ id).blk=some b->RV M μ (.pointer (some ⟨b,i * sz+off,none⟩)) (.rptr id i sz off)
 | tl {id n sz b l c}:(μ id).val = .slice (some ⟨b,0,none⟩) l c->n<l->l<=c->RV M μ (.slice (some ⟨b,n * sz,none⟩) (l-n) (c-n)) (.tl id n sz)
 | cptr {b o : Nat} {cs : List PD} : (∀ (j : Nat) d, cs[j]? = some d → ∃ u, M b (o + j) = some u ∧ u.oneCell' = true) → (∀ (j : Nat) d u, cs[j]? = some d → M b (o + j) = some u → Rd M u d) →
   RV M μ (.pointer (some ⟨b,o,none⟩)) (.cptr cs)
 | ms {u id}:u=(μ id).val->u.oneCell'=true->RV M μ u (.ms id)
 | it {id b}:(μ id).blk=some b->RV M μ (.pointer (some ⟨b,0,none⟩)) (.it id)
 | func {fn : Fn} {f c : Array Value} {fs cs : List V} : f.size = fs.length → c.size = cs.length → (∀ (i : Nat) u x, f[i]? = some u → fs[i]? = some x → RV M μ u x) →
   (∀ (i:Nat) u x,c[i]?=some u->cs[i]?=some x->RV M μ u x)->RV M μ (.func fn f c) (.func fn fs cs)
 | agg {arr:Array Value} {cs:List V}:arr.size=cs.length->(∀ (i:Nat) u,arr[i]?=some u->u.oneCell'=true)->(∀ (i:Nat) u x,arr[i]?=some u->cs[i]?=some x->RV M μ u x)->RV M μ (.agg arr) (.agg cs)
 | tuple {arr:Array Value} {cs:List V}:arr.size=cs.length->(∀ (i:Nat) u x,arr[i]?=some u->cs[i]?=some x->RV M μ u x)->RV M μ (.tuple arr) (.tuple cs)
 | when {u b x}:(b=true->RV M μ u x)->(b=false->u=undef)->RV M μ u (.when b x)
mutual
def V.noRef (id:Nat):V->Bool
 | .ptr i _=>i != id
 | .rptr i _ _ _=>i != id
 | .tl i _ _=>i != id
 | .ms i=>i != id
 | .it i=>i != id
 | .func _ a b=>iO id a && iO id b
 | .agg cs=>iO id cs
 | .tuple cs=>iO id cs
 | .when _ x=>V.noRef id x
 | _=>true
def iO (id:Nat):List V->Bool
 | []=>true
 | x::xs=>V.noRef id x && iO id xs
end
theorem iQ {id:Nat}:∀ {l:List V},iO id l=true->∀ {i:Nat} {x:V},l[i]?=some x->V.noRef id x=true
 | [],_,i,x,h=>by simp at h
 | y::ys,h,i,x,hx=>by
  simp only[iO,bI]at h;cases i with
  | zero=>simp at hx;subst hx;exact h.1
  | succ i=>simp at hx;exact iQ h.2 hx
theorem RV.mono {M M':qY} {μ μ':Mu} (h:∀ b o v,M b o=some v->M' b o=some v) {u:Value} {x:V} (r:RV M μ u x) :
  (∀ id,V.noRef id x=false->(μ' id).at=(μ id).at)->RV M' μ' u x:=by
 induction r with
 | p r=>exact fun _ => .p (r.mono h)
 | dead=>exact fun _ => .dead
 | nilsl=>exact fun _ => .nilsl
 | @ptr id off b h1=>intro k;have e:=k id (by simp[V.noRef]);exact .ptr (by rw[nD e];exact h1)
 | @rptr id i sz off b h1=>intro k;have e:=k id (by simp[V.noRef]);exact .rptr (by rw[nD e];exact h1)
 | @tl id n sz b l c h1 h2 h3=>intro k;have e:=k id (by simp[V.noRef]);exact .tl (by rw[oD e];exact h1) h2 h3
 | @cptr b o cs h1 h2 =>
  refine fun _ => .cptr (fun j d hd => ?_) (fun j d u hd hu => ?_)
  ·obtain⟨u,hu,hc⟩:=h1 j d hd;exact⟨u,h _ _ _ hu,hc⟩
  obtain⟨u',hu',_⟩:=h1 j d hd;have:=h _ _ _ hu';rw[this]at hu;cases hu;exact(h2 j d _ hd hu').mono h
 | @ms u id h1 h2=>intro k;have e:=k id (by simp[V.noRef]);exact .ms (by rw[oD e];exact h1) h2
 | @it id b h1=>intro k;have e:=k id (by simp[V.noRef]);exact .it (by rw[nD e];exact h1)
 | func h1 h2 _ _ ih1 ih2 =>
  intro k;refine .func h1 h2 (fun i u x hu hx=>ih1 i u x hu hx fun id hid=>k id ?_) (fun i u x hu hx=>ih2 i u x hu hx fun id hid=>k id ?_)
  ·cases hh:V.noRef id (.func _ _ _)with
   | false=>rfl
   | true=>simp only[V.noRef,bI]at hh;rw[iQ hh.1 hx]at hid;cases hid
  cases hh:V.noRef id (.func _ _ _)with
  | false=>rfl
  | true=>simp only[V.noRef,bI]at hh;rw[iQ hh.2 hx]at hid;cases hid
 | agg h1 h2 _ ih =>
  intro k;refine .agg h1 h2 (fun i u x hu hx=>ih i u x hu hx fun id hid=>k id ?_);cases hh:V.noRef id (.agg _)with
  | false=>rfl
  | true=>simp only[V.noRef]at hh;rw[iQ hh hx]at hid;cases hid
 | tuple h1 _ ih =>
  intro k;refine .tuple h1 (fun i u x hu hx=>ih i u x hu hx fun id hid=>k id ?_);cases hh:V.noRef id (.tuple _)with
  | false=>rfl
  | true=>simp only[V.noRef]at hh;rw[iQ hh hx]at hid;cases hid
 | when _ h2 ih=>intro k;exact .when (fun hb=>ih hb fun id hid=>k id (by simpa[V.noRef]using hid)) h2
inductive Box where
 | vars (e:TypeId) (cs:List V)
 | row (e:TypeId) (sz:Nat) (es:List PD)
 | iter (s:List UInt8) (pos:Nat)
 | mp (ks:List (List UInt8)) (vs:List V)
 | obj (b:Nat) (v:Value) (o:Obj) (rs:List Nat)
 | brow (e:TypeId) (bs:List UInt8)
 | prow (e:TypeId) (ps:List V)
 | mpx (ks:List (List UInt8)) (vs:List V)
 | mach (es en:TypeId) (ss:List (PD × PD × Option (List Int)))
def Box.noRef (id:Nat):Box->Bool
 | .vars _ cs=>iO id cs
 | .mp _ vs=>iO id vs
 | .mpx _ vs=>iO id vs
 | .obj _ _ _ rs => !rs.contains id
 | .prow _ ps=>iO id ps
 | _=>true
def qUL (es:Array MapEntry) (clock:Nat):Prop:=(∀ x∈es.toList,x.born<clock)/\(es.toList.map (·.born)).Nodup
def qQF (M:qY) (w:World) (arr:Array Value) (en:TypeId) (i:Nat) (s:PD × PD × Option (List Int)) (o:Option Nat):Prop :=
 (∃ u,arr[i * 3]?=some u/\Rd M u s.1)/\(∃ u,arr[i * 3+1]?=some u/\Rd M u s.2.1) /\
  ((o=none/\(s.2.2=none\/s.2.2=some []/\arr[i * 3+2]?=some (.slice none 0 0))) \/
   ∃ (l:List Int) (n cp:Nat) (ar:Array Value),s.2.2=some l/\o=some n/\arr[i * 3+2]?=some (.slice (some ⟨n,0,none⟩) l.length cp)/\w.heap[n]?=some (.cells ar en (0,0))/\ar.size=cp/\l.length<=cp/\cp<=maxLen /\
    (∀ (j:Nat) u,ar[j]?=some u->u.oneCell'=true)/\∀ (j:Nat) (z:Int),l[j]?=some z->ar[j]?=some (.int .i64 z)/\IntKind.i64.min<=z/\z<=IntKind.i64.max)
def wP (M:qY) (w:World) (sub:List Nat) (arr:Array Value) (en:TypeId) (ss:List (PD × PD × Option (List Int))):Prop :=
 ∃ ns:List (Option Nat),ns.length=ss.length/\(∀ (i j n:Nat),ns[i]?=some (some n)->ns[j]?=some (some n)->i=j)/\(∀ n,n∈sub↔∃ i:Nat,ns[i]?=some (some n))/\∀ (i:Nat) s o,ss[i]?=some s->ns[i]?=some o->qQF M w arr en i s o
inductive RBox (M:qY) (μ:Mu) (w:World) (id:Nat):Box->Prop
 | vars {e cs b} {arr : Array Value} : (μ id).blk = some b → w.heap[b]? = some (.cells arr e (0, 0)) → arr.size = cs.length → (∀ (i : Nat) u, arr[i]? = some u → u.oneCell' = true) →
   (∀ (i:Nat) u x,arr[i]?=some u->cs[i]?=some x->RV M μ u x)->RBox M μ w id (.vars e cs)
 | row {e sz es b cap} {arr : Array Value} : (μ id).blk = some b → (μ id).val = .slice (some ⟨b, 0, none⟩) es.length cap → w.heap[b]? = some (.cells arr e (0, 0)) → arr.size = cap * sz → es.length ≤ cap → cap ≤ maxLen →
   (∀ (i:Nat) u,arr[i]?=some u->u.oneCell'=true) ->
   (∀ (i:Nat) e',es[i]?=some e'->e'.cells.length=sz) ->
   (∀ (i:Nat) e' (j:Nat) d u,es[i]?=some e'->e'.cells[j]?=some d->arr[i * sz+j]?=some u->Rd M u d)->RBox M μ w id (.row e sz es)
 | rowN {e sz}:(μ id).blk=none->(μ id).val = .slice none 0 0->RBox M μ w id (.row e sz [])
 | iter {s:List UInt8} {pos b} {ba:ByteArray}:(μ id).blk=some b->w.heap[b]?=some (.stringIter ba pos)->ba.data.toList=s->s.length<=maxLen->RBox M μ w id (.iter s pos)
 | mp {ks : List (List UInt8)} {vs : List V} {b clock : Nat} {es : Array MapEntry} : (μ id).blk = some b → (μ id).val = .map (some b) → w.heap[b]? = some (.map es clock) → qUL es clock → es.size = ks.length → es.size = vs.length →
   (∀ (i:Nat) e k,es[i]?=some e->ks[i]?=some k->∃ ba,e.key = .string ba/\ba.data.toList=k/\k.length<=maxLen) ->
   (∀ (i:Nat) e x,es[i]?=some e->vs[i]?=some x->RV M μ e.val x)->RBox M μ w id (.mp ks vs)
 | obj {b:Nat} {v:Value} {o:Obj} {rs:List Nat}:(μ id).blk=some b->(μ id).val=v->w.heap[b]?=some o->RBox M μ w id (.obj b v o rs)
 | brow {e bs b cap q} {arr : Array Value} : (μ id).blk = some b → (μ id).val = .slice (some ⟨b, 0, none⟩) bs.length cap → w.heap[b]? = some (.cells arr e q) → bs.length ≤ arr.size → arr.size ≤ q.1 → bs.length ≤ cap → cap ≤ maxLen →
   (∀ (i:Nat) c,bs[i]?=some c->arr[i]?=some (.int .u8 c.toNat))->RBox M μ w id (.brow e bs)
 | prow {e ps b cap} {arr : Array Value} : (μ id).blk = some b → (μ id).val = .slice (some ⟨b, 0, none⟩) ps.length cap → w.heap[b]? = some (.cells arr e (0, 0)) → arr.size = cap → ps.length ≤ cap → cap ≤ maxLen →
   (∀ (i:Nat) u,arr[i]?=some u->u.oneCell'=true)->(∀ (i:Nat) u x,arr[i]?=some u->ps[i]?=some x->RV M μ u x)->RBox M μ w id (.prow e ps)
 | mpx {ks : List (List UInt8)} {vs : List V} {b clock : Nat} {es : Array MapEntry} : (μ id).blk = some b → (μ id).val = .map (some b) → w.heap[b]? = some (.map es clock) → qUL es clock → ks.length = vs.length →
   (∀ e∈es.toList, ∃ (i:Nat) (ba:ByteArray),e.key = .string ba/\ks[i]?=some ba.data.toList/\ba.data.toList.length<=maxLen/\∀ x,vs[i]?=some x->RV M μ e.val x) ->
   (∀ k∈ks, ∃ e∈es.toList, ∃ ba:ByteArray,e.key = .string ba/\ba.data.toList=k)->RBox M μ w id (.mpx ks vs)
 | mach {es en : TypeId} {ss : List (PD × PD × Option (List Int))} {b cap : Nat} {arr : Array Value} : (μ id).blk = some b → (μ id).val = .slice (some ⟨b, 0, none⟩) ss.length cap → w.heap[b]? = some (.cells arr es (0, 0)) → arr.size = cap * 3 → ss.length ≤ cap → cap ≤ maxLen →
   (∀ (i:Nat) u,arr[i]?=some u->u.oneCell'=true)->b ∉ (μ id).sub->wP M w (μ id).sub arr en ss->RBox M μ w id (.mach es en ss)
 | machN {es en:TypeId}:(μ id).blk=none->(μ id).val = .slice none 0 0->(μ id).sub=[]->RBox M μ w id (.mach es en [])
theorem qQF.mono {M M':qY} {w w':World} {arr:Array Value} {en:TypeId} {i:Nat} {s:PD × PD × Option (List Int)} {o:Option Nat} (h:∀ b o v,M b o=some v->M' b o=some v) (hs:∀ b,o=some b->w'.heap[b]?=w.heap[b]?)
  (r:qQF M w arr en i s o):qQF M' w' arr en i s o:=by
 obtain⟨⟨u1,k1,g1⟩,⟨u2,k2,g2⟩,k3⟩:=r;refine⟨⟨u1,k1,g1.mono h⟩,⟨u2,k2,g2.mono h⟩, ?_⟩;rcases k3 with k3|⟨l,n,cp,ar,q0,q1,q2,q3,q4⟩
 ·exact .inl k3
 exact .inr ⟨l,n,cp,ar,q0,q1,q2,by rw[hs n q1];exact q3,q4⟩
theorem wP.mono {M M':qY} {w w':World} {sub:List Nat} {arr:Array Value} {en:TypeId} {ss:List (PD × PD × Option (List Int))} (h:∀ b o v,M b o=some v->M' b o=some v) (hs:∀ b∈sub,w'.heap[b]?=w.heap[b]?)
  (r:wP M w sub arr en ss):wP M' w' sub arr en ss:=by
 obtain⟨ns,h1,h2,h3,h4⟩:=r;exact⟨ns,h1,h2,h3,fun i s o hi ho=>(h4 i s o hi ho).mono h fun b hb=>hs b ((h3 b).2 ⟨i,hb ▸ ho⟩)⟩
theorem RBox.mono {M M':qY} {μ μ':Mu} {w w':World} {id:Nat} {bx:Box} (h:∀ b o v,M b o=some v->M' b o=some v) (hid:μ' id=μ id)
  (hk:∀ i,Box.noRef i bx=false->(μ' i).at=(μ i).at) (hs:∀ b,(μ id).has b->w'.heap[b]?=w.heap[b]?) (r:RBox M μ w id bx):RBox M' μ' w' id bx:=by
 have hw:∀ b,(μ id).blk=some b->w'.heap[b]?=w.heap[b]?:=fun b hb=>hs b (.inl hb);cases r with
 | mach h0 hv h1 h2 h3 h4 h5 hn h6 =>
  refine .mach (by rw[hid];exact h0) (by rw[hid];exact hv) (by rw[hw _ h0];exact h1) h2 h3 h4 h5 (by rw[hid];exact hn) ?_;rw[hid];exact h6.mono h fun b hb=>hs b (.inr hb)
 | machN h0 hv h1=>exact .machN (by rw[hid];exact h0) (by rw[hid];exact hv) (by rw[hid];exact h1)
 | vars h0 h1 h2 h3 h4 =>
  refine .vars (by rw[hid];exact h0) (by rw[hw _ h0];exact h1) h2 h3 fun i u x hu hx=>(h4 i u x hu hx).mono h fun j hj=>hk j ?_;cases hh:Box.noRef j (.vars _ _)with
  | false=>rfl
  | true=>simp only[Box.noRef]at hh;rw[iQ hh hx]at hj;cases hj
 | row h0 hv h1 h2 h3 h4 h5 h6 h7 =>
  exact .row (by rw[hid];exact h0) (by rw[hid];exact hv) (by rw[hw _ h0];exact h1) h2 h3 h4 h5 h6 fun i e' j d u he hd hu=>(h7 i e' j d u he hd hu).mono h
 | rowN h0 hv=>exact .rowN (by rw[hid];exact h0) (by rw[hid];exact hv)
 | iter h0 h1 h2 h3=>exact .iter (by rw[hid];exact h0) (by rw[hw _ h0];exact h1) h2 h3
 | obj h0 hv h1=>exact .obj (by rw[hid];exact h0) (by rw[hid];exact hv) (by rw[hw _ h0];exact h1)
 | brow h0 hv h1 h2 h3 h4 h5 h6=>exact .brow (by rw[hid];exact h0) (by rw[hid];exact hv) (by rw[hw _ h0];exact h1) h2 h3 h4 h5 h6
 | prow h0 hv h1 h2 h3 h4 h5 h6 =>
  refine .prow (by rw[hid];exact h0) (by rw[hid];exact hv) (by rw[hw _ h0];exact h1) h2 h3 h4 h5 fun i u x hu hx=>(h6 i u x hu hx).mono h fun j hj=>hk j ?_;cases hh:Box.noRef j (.prow _ _)with
  | false=>rfl
  | true=>simp only[Box.noRef]at hh;rw[iQ hh hx]at hj;cases hj
 | mpx h0 hv h1 hB hl h2 h3 =>
  refine .mpx (by rw[hid];exact h0) (by rw[hid];exact hv) (by rw[hw _ h0];exact h1) hB hl (fun e he => ?_) h3;obtain⟨i,ba,g1,g2,g3,g4⟩:=h2 e he;refine⟨i,ba,g1,g2,g3,fun x hx=>(g4 x hx).mono h fun j hj=>hk j ?_⟩;cases hh:Box.noRef j (.mpx _ _)with
  | false=>rfl
  | true=>simp only[Box.noRef]at hh;rw[iQ hh hx]at hj;cases hj
 | mp h0 hv h1 hB h2 h3 h4 h5 =>
  refine .mp (by rw[hid];exact h0) (by rw[hid];exact hv) (by rw[hw _ h0];exact h1) hB h2 h3 h4 fun i e x he hx=>(h5 i e x he hx).mono h fun j hj=>hk j ?_;cases hh:Box.noRef j (.mp _ _)with
  | false=>rfl
  | true=>simp only[Box.noRef]at hh;rw[iQ hh hx]at hj;cases hj
structure St where
 tmps:List V
 pins:List Nat
 H:List (Nat × Box)
 base:Nat:=0
def St.put (st:St) (dst:Option Nat) (x:V):St :=
 match dst with
 | some d=>{ st with tmps:=st.tmps.set d x }
 | none=>st
structure Ctx where
 B:Nat
 w0:World
 M0:qY
 mu0:Mu
 lent:Nat->Prop:=fun _=>False
def Ctx.mine (c:Ctx) (b:Nat):Prop:=c.B<=b\/c.lent b
structure Kept (free:Nat->Prop) (w w':World):Prop where
 os:w'.os=w.os
 tape:w'.tape=w.tape
 output:w'.output=w.output
 size:w.heap.size<=w'.heap.size
 block:∀ k, ¬ free k->w'.heap[k]?=w.heap[k]?
theorem Kept.refl (free:Nat->Prop) (w:World):Kept free w w:=⟨rfl,rfl,rfl,bP _,fun _ _=>rfl⟩
theorem Kept.trans {free:Nat->Prop} {a b c:World} (h:Kept free a b) (k:Kept free b c):Kept free a c :=
 ⟨k.os.trans h.os,k.tape.trans h.tape,k.output.trans h.output,dB h.size k.size,fun i hi=>(k.block i hi).trans (h.block i hi)⟩
def RL (M:qY) (μ:Mu) (arr:Array Value) (l:List V):Prop:=arr.size=l.length/\∀ (i:Nat) u x,arr[i]?=some u->l[i]?=some x->RV M μ u x
theorem RL.mono {M M':qY} {μ μ':Mu} {arr:Array Value} {l:List V} (h:∀ b o v,M b o=some v->M' b o=some v)
  (hk:∀ i,iO i l=false->(μ' i).at=(μ i).at) (r:RL M μ arr l):RL M' μ' arr l :=
 ⟨r.1,fun i u x hu hx=>(r.2 i u x hu hx).mono h fun j hj=>hk j (by
  cases hh:iO j l with
  | false=>rfl
  | true=>rw[iQ hh hx]at hj;cases hj)⟩
def kX (id:Nat):List (Nat × Box)->Bool
 | []=>true
 | (_,b)::r=>b.noRef id && kX id r
theorem vQ {id:Nat}:∀ {H:List (Nat × Box)},kX id H=true->∀ {i:Nat} {b:Box},(i,b)∈H->b.noRef id=true
 | [],_,_,_,h=>by cases h
 | (j,c)::r,h,i,b,hm=>by
  simp only[kX,bI]at h;rcases bM.1 hm with e|e
  ·cases e;exact h.1
  exact vQ h.2 e
def qM (id:Nat):List (Nat × Box)->Bool
 | []=>false
 | (i,_)::r=>i == id || qM id r
theorem qH {id:Nat}:∀ {H:List (Nat × Box)},qM id H=true↔∃ b,(id,b)∈H
 | []=>by simp[qM]
 | (j,c)::r=>by
  simp only[qM,cX,dD,qH (H:=r),bM,Prod.mk.injEq];constructor
  ·rintro(rfl|⟨b,hb⟩)
   ·exact⟨c,.inl ⟨rfl,rfl⟩⟩
   exact⟨b,.inr hb⟩
  rintro⟨b,⟨rfl,rfl⟩|hb⟩
  ·exact .inl rfl
  exact .inr ⟨b,hb⟩
def St.fresh (st:St) (id:Nat):Bool:=iO id st.tmps && !st.pins.contains id && kX id st.H && !qM id st.H
structure Rel (c:Ctx) (M:qY) (μ:Mu) (st:St) (tmps:Array Value) (w:World):Prop where
 mem:∀ b o v,M b o=some v->w.cell? ⟨b,o,none⟩=some v
 ext:∀ b o v,c.M0 b o=some v->M b o=some v
 old:∀ b o, ¬ c.mine b->M b o=c.M0 b o
 slots:RL M μ tmps st.tmps
 pins:∀ id∈st.pins,(μ id).at=(c.mu0 id).at
 box:∀ id bx,(id,bx)∈st.H->RBox M μ w id bx
 nodup:(st.H.map (·.1)).Nodup
 inj:∀ id id' b,qM id st.H=true->qM id' st.H=true->(μ id).has b->(μ id').has b->id=id'
 own:∀ id b,qM id st.H=true->(μ id).has b->c.mine b/\b<w.heap.size/\∀ o,M b o=none
 size:c.B<=w.heap.size
 below:Kept c.mine c.w0 w
theorem Rel.put {c:Ctx} {M:qY} {μ:Mu} {st:St} {tmps:Array Value} {w:World} (r:Rel c M μ st tmps w) {u:Value} {x:V} (h:RV M μ u x) (dst:Option Nat) :
  Rel c M μ (st.put dst x) (match dst with|some d=>tmps.setIfInBounds d u|none=>tmps) w:=by
 cases dst with
 | none=>exact r
 | some d =>
  refine { r with slots := ?_ };refine⟨by simp[St.put,r.slots.1],fun i u' x' hu hx => ?_⟩;simp only[St.put]at hx;rw[gO]at hu;rw[dO]at hx;by_cases hd:d=i
  ·subst hd;simp only[if_true]at hu hx;have h1:=r.slots.1;split at hu
   ·split at hx
    ·cases hu;cases hx;exact h
    cases hx
   cases hu
  rw[bD hd]at hu hx;exact r.slots.2 i u' x' hu hx
theorem lO (a:Act) (dst:Option Tmp) (u:Value):(a.put dst u)={ a with tmps:=(match dst with|some d=>a.tmps.setIfInBounds d u|none=>a.tmps) }:=by
 cases dst <;> rfl
theorem kE {w:World} {b i:Nat} {v:Value} (h:w.cell? ⟨b,i,none⟩=some v):b<w.heap.size:=by
 unfold World.cell? at h;split at h
 ·rename_i hb;exact(cC.1 hb).1
 cases h
theorem zQ {w:World} {b i:Nat} {arr:Array Value} {e:TypeId} {fz:Nat × Nat} (h:w.heap[b]?=some (.cells arr e fz)):w.cell? ⟨b,i,none⟩=arr[i]?:=by
 simp[World.cell?,h]
structure Grows (w w':World):Prop where
 os:w'.os=w.os
 tape:w'.tape=w.tape
 output:w'.output=w.output
 size:w.heap.size<=w'.heap.size
 block:∀ k,k<w.heap.size->w'.heap[k]?=w.heap[k]?
theorem Grows.refl (w:World):Grows w w:=⟨rfl,rfl,rfl,bP _,fun _ _=>rfl⟩
theorem Grows.alloc (w:World) (o:Obj):Grows w (w.alloc o):=⟨rfl,rfl,rfl,by simp,fun k hk=>RowKit.Below.heap_alloc w o k hk⟩
theorem Grows.drew (w:World):Grows w w.drew:=⟨rfl,rfl,rfl,bP _,fun _ _=>rfl⟩
theorem Grows.trans {a b c:World} (h:Grows a b) (k:Grows b c):Grows a c :=
 ⟨k.os.trans h.os,k.tape.trans h.tape,k.output.trans h.output,dB h.size k.size,fun i hi=>(k.block i (dR hi h.size)).trans (h.block i hi)⟩
theorem lX {w w':World} (h:RowKit.Below w.heap.size w w'):Grows w w':=⟨h.os,h.tape,h.output,h.size,h.block⟩
theorem Grows.kept {w w':World} (h:Grows w w') {c:Ctx} (hB:c.B<=w.heap.size):Kept c.mine w w' :=
 ⟨h.os,h.tape,h.output,h.size,fun k hk=>h.block k (by have:¬ c.B<=k:=fun e=>hk (.inl e);omega)⟩
section
variable {c:Ctx} {M M':qY} {μ μ':Mu} {st:St} {tmps:Array Value} {w w':World}
theorem Rel.grows (r:Rel c M μ st tmps w) (h:Grows w w') (hM:∀ b o v,M b o=some v->M' b o=some v) (hmem:∀ b o v,M' b o=some v->w'.cell? ⟨b,o,none⟩=some v)
  (hold:∀ b o,b<w.heap.size->M' b o=M b o):Rel c M' μ st tmps w' where
 mem:=hmem
 ext:=fun b o v hv=>hM _ _ _ (r.ext b o v hv)
 old:=fun b o hb=>(hold b o (by have:=r.size;have:¬ c.B<=b:=fun e=>hb (.inl e);omega)).trans (r.old b o hb)
 slots:=r.slots.mono hM fun _ _=>rfl
 pins:=r.pins
 box:=fun id bx hb=>(r.box id bx hb).mono hM rfl (fun _ _=>rfl) (fun b hbk=>h.block _ (r.own id b (qH.2 ⟨bx,hb⟩) hbk).2.1)
 nodup:=r.nodup
 inj:=r.inj
 own:=fun id b hid hbk=>by
  obtain⟨h1,h2,h3⟩:=r.own id b hid hbk;exact⟨h1,dR h2 h.size,fun o=>(hold _ o h2).trans (h3 o)⟩
 size:=dB r.size h.size
 below:=r.below.trans (h.kept r.size)
theorem Rel.same (r:Rel c M μ st tmps w) (h:Grows w w'):Rel c M μ st tmps w' :=
 r.grows h (fun _ _ _ h=>h) (fun b o v hv=>by
  have h1:=r.mem b o v hv;exact(World.cell?_of_block (w:=w) (h.block b (kE h1))).trans h1) fun _ _ _=>rfl
def upd (μ:Mu) (id:Nat) (l:Loc):Mu:=fun i=>if i=id then l else μ i
theorem qK (μ:Mu) (id:Nat) (l:Loc):upd μ id l id=l:=by simp[upd]
theorem yM (μ:Mu) {id i:Nat} (l:Loc) (h:i≠id):upd μ id l i=μ i:=by simp[upd,h]
theorem qJT (μ:Mu) {id i:Nat} (l:Loc) (h:i≠id):(upd μ id l i).at=(μ i).at:=congrArg Loc.at (yM μ l h)
theorem lE {st:St} {id:Nat} (h:st.fresh id=true):iO id st.tmps=true/\id ∉ st.pins/\kX id st.H=true/\qM id st.H=false:=by
 simp only[St.fresh,bI,fF,gU,dZ]at h;exact⟨h.1.1.1,h.1.1.2,h.1.2,h.2⟩
theorem qPD {P:Nat->Bool} {id i:Nat} (h:P id=true) (hi:P i=false):i≠id:=by
 rintro rfl;rw[h]at hi;cases hi
theorem Rel.newBox (r:Rel c M μ st tmps w) {id:Nat} {bx:Box} {l:Loc} (hf:st.fresh id=true) (h:Grows w w') (hl:∀ b,l.blk=some b->w.heap.size<=b/\b<w'.heap.size)
  (hbx:RBox M (upd μ id l) w' id bx) (hno:bx.noRef id=true) (hs:l.sub=[]:=by rfl):Rel c M (upd μ id l) { st with H:=(id,bx)::st.H } tmps w':=by
 obtain⟨f1,f2,f3,f4⟩:=lE hf;have r':=r.same h;refine { r' with slots := ?_,pins := ?_,box := ?_,nodup := ?_,inj := ?_,own := ?_ }
 ·exact r'.slots.mono (fun _ _ _ h=>h) fun i hi=>qJT μ l (qPD (P:=fun i=>iO i st.tmps) f1 hi)
 ·intro i hi;rw[yM μ l (by rintro rfl;exact f2 hi)];exact r.pins i hi
 ·intro i b hb;rcases bM.1 hb with e|e
  ·cases e;exact hbx
  have hne:i≠id:=by rintro rfl;rw[qH.2 ⟨b,e⟩]at f4;cases f4
  exact(r'.box i b e).mono (fun _ _ _ h=>h) (yM μ l hne) (fun j hj=>qJT μ l (by
   rintro rfl;rw[vQ f3 e]at hj;cases hj)) (fun _ _=>rfl)
 ·simp only[bA,fG];refine⟨fun hm => ?_,r.nodup⟩;obtain⟨⟨i,b⟩,hb,rfl⟩:=cO.1 hm;rw[qH.2 ⟨b,hb⟩]at f4;cases f4
 ·intro i j b hi hj hei hej;simp only[qM,cX,dD]at hi hj;by_cases hid:i=id
  ·by_cases hjd:j=id
   ·rw[hid,hjd]
   have hj':=hj.resolve_left (Ne.symm hjd);rw[hid,qK]at hei;rw[yM μ l hjd]at hej;have:=(r.own j b hj' hej).2.1;have:=(hl b (lZ hs hei)).1;omega
  have hi':=hi.resolve_left (Ne.symm hid);by_cases hjd:j=id
  ·rw[hjd,qK]at hej;rw[yM μ l hid]at hei;have:=(r.own i b hi' hei).2.1;have:=(hl b (lZ hs hej)).1;omega
  rw[yM μ l hid]at hei;rw[yM μ l hjd]at hej;exact r.inj i j b hi' (hj.resolve_left (Ne.symm hjd)) hei hej
 intro i b hi hib;simp only[qM,cX,dD]at hi;by_cases hid:i=id
 ·rw[hid,qK]at hib;have hib:=lZ hs hib;refine⟨.inl (dB r.size (hl b hib).1),(hl b hib).2,fun o => ?_⟩;cases hm:M b o with
  | none=>rfl
  | some v=>have:=kE (r.mem _ _ _ hm);have:=(hl b hib).1;omega
 rw[yM μ l hid]at hib;exact r'.own i b (hi.resolve_left (Ne.symm hid)) hib
def VLe:V->V->Prop
 | _,.dead=>True
 | x,y=>x=y
theorem VLe.refl (x:V):VLe x x:=by cases x <;> simp[VLe]
theorem VLe.dead (x:V):VLe x .dead:=trivial
theorem VLe.cases {x y:V} (h:VLe x y):x=y\/y = .dead:=by
 cases y <;> first|exact .inr rfl|exact .inl h
def jM:List V->List V->Prop
 | [],[]=>True
 | x::xs,y::ys=>VLe x y/\jM xs ys
 | _,_=>False
theorem jM.refl:∀ l,jM l l
 | []=>trivial
 | x::xs=>⟨.refl x,jM.refl xs⟩
theorem jM.len:∀ {l l':List V},jM l l'->l.length=l'.length
 | [],[],_=>rfl
 | _::_,_::_,h=>by simp[jM.len h.2]
 | [],_::_,h=>h.elim
 | _::_,[],h=>h.elim
theorem jM.get:∀ {l l':List V},jM l l'->∀ {i:Nat} {y:V},l'[i]?=some y->∃ x,l[i]?=some x/\VLe x y
 | [],[],_,i,y,hy=>by simp at hy
 | x::xs,z::ys,h,i,y,hy=>by
  cases i with
  | zero=>simp at hy;subst hy;exact⟨x,by simp,h.1⟩
  | succ i=>simp at hy;obtain⟨x',h1,h2⟩:=jM.get h.2 hy;exact⟨x',by simpa using h1,h2⟩
 | [],_::_,h,_,_,_=>h.elim
 | _::_,[],h,_,_,_=>h.elim
theorem RL.weaken {arr:Array Value} {l l':List V} (h:RL M μ arr l) (hl:jM l l'):RL M μ arr l':=by
 refine⟨h.1.trans hl.len,fun i u y hu hy => ?_⟩;obtain⟨x,hx,hle⟩:=hl.get hy;rcases hle.cases with rfl|rfl
 ·exact h.2 i u _ hu hx
 exact .dead
structure St.Le (st st':St):Prop where
 tmps:jM st.tmps st'.tmps
 pins:st'.pins=st.pins
 H:∀ x∈st'.H,x∈st.H
 nodup:(st'.H.map (·.1)).Nodup
theorem Rel.weaken {st':St} (r:Rel c M μ st tmps w) (h:St.Le st st'):Rel c M μ st' tmps w where
 mem:=r.mem
 ext:=r.ext
 old:=r.old
 slots:=r.slots.weaken h.tmps
 pins:=by rw[h.pins];exact r.pins
 box:=fun id bx hb=>r.box id bx (h.H _ hb)
 nodup:=h.nodup
 inj:=fun i j b hi hj=>r.inj i j b (by obtain⟨b,hb⟩:=qH.1 hi;exact qH.2 ⟨b,h.H _ hb⟩) (by obtain⟨b,hb⟩:=qH.1 hj;exact qH.2 ⟨b,h.H _ hb⟩)
 own:=fun i b hi=>r.own i b (by obtain⟨b,hb⟩:=qH.1 hi;exact qH.2 ⟨b,h.H _ hb⟩)
 size:=r.size
 below:=r.below
def zS (id:Nat):List (Nat × Box)->Option Box
 | []=>none
 | (i,b)::r=>if i=id then some b else zS id r
theorem zD {id:Nat}:∀ {H:List (Nat × Box)} {b:Box},zS id H=some b->(id,b)∈H
 | [],_,h=>by simp[zS]at h
 | (i,c)::r,b,h=>by
  simp only[zS]at h;split at h
  ·rename_i e;cases h;exact bM.2 (.inl (by rw[e]))
  exact bM.2 (.inr (zD h))
def zO (id:Nat) (b:Box):List (Nat × Box)->List (Nat × Box)
 | []=>[]
 | (i,c)::r=>if i=id then(i,b)::r else(i,c)::zO id b r
theorem qFW (id:Nat) (b:Box):∀ H:List (Nat × Box),(zO id b H).map (·.1)=H.map (·.1)
 | []=>rfl
 | (i,c)::r=>by
  simp only[zO];split
  ·rfl
  simp[qFW id b r]
theorem wH {id:Nat} {H:List (Nat × Box)}:qM id H=true↔id∈H.map (·.1):=by
 rw[qH,cO];constructor
 ·rintro⟨b,hb⟩;exact⟨_,hb,rfl⟩
 rintro⟨⟨i,b⟩,hb,rfl⟩;exact⟨b,hb⟩
theorem kL {id i:Nat} {b:Box} {H:List (Nat × Box)}:qM i (zO id b H)=true↔qM i H=true:=by
 rw[wH,wH,qFW]
theorem qKF {id:Nat} {b:Box}:∀ {H:List (Nat × Box)},(H.map (·.1)).Nodup->∀ {i:Nat} {c:Box},(i,c)∈zO id b H->(i=id/\c=b)\/(i≠id/\(i,c)∈H)
 | [],_,i,c,h=>by simp[zO]at h
 | (j,d)::r,hn,i,c,h=>by
  simp only[bA,fG]at hn;simp only[zO]at h;split at h
  ·rename_i e;rcases bM.1 h with h|h
   ·cases h;exact .inl ⟨e,rfl⟩
   refine .inr ⟨?_,bM.2 (.inr h)⟩;rintro rfl;exact hn.1 (cO.2 ⟨(i,c),h,e.symm⟩)
  rename_i e;rcases bM.1 h with h|h
  ·cases h;exact .inr ⟨e,bM.2 (.inl rfl)⟩
  rcases qKF hn.2 h with h|h
  ·exact .inl h
  exact .inr ⟨h.1,bM.2 (.inr h.2)⟩
structure Turned (w w':World) (b:Nat):Prop where
 os:w'.os=w.os
 tape:w'.tape=w.tape
 output:w'.output=w.output
 size:w'.heap.size=w.heap.size
 block:∀ k,k≠b->w'.heap[k]?=w.heap[k]?
theorem Rel.write (r:Rel c M μ st tmps w) {id b:Nat} {bx:Box} (hk:qM id st.H=true) (hb:(μ id).blk=some b) (h:Turned w w' b) (hbx:RBox M μ w' id bx) :
  Rel c M μ { st with H:=zO id bx st.H } tmps w':=by
 have hB:=r.own id b hk (.inl hb);refine { r with mem := ?_,box := ?_,nodup := ?_,inj := ?_,own := ?_,size := ?_,below := ?_ }
 ·intro b' o v hv;have hne:b'≠b:=by rintro rfl;rw[hB.2.2 o]at hv;cases hv
  exact(World.cell?_of_block (w:=w) (h.block b' hne)).trans (r.mem b' o v hv)
 ·intro i bx' hb';rcases qKF r.nodup hb' with⟨rfl,rfl⟩|⟨hne,hb''⟩
  ·exact hbx
  exact(r.box i bx' hb'').mono (fun _ _ _ h=>h) rfl (fun _ _=>rfl) (fun b2 hb2=>h.block _ fun e=>hne (r.inj i id b (qH.2 ⟨bx',hb''⟩) hk (e ▸ hb2) (.inl hb)))
 ·show((zO id bx st.H).map (·.1)).Nodup
  rw[qFW];exact r.nodup
 ·exact fun i j b hi hj=>r.inj i j b (kL.1 hi) (kL.1 hj)
 ·intro i b' hi hib;have:=r.own i b' (kL.1 hi) hib;exact⟨this.1,by rw[h.size];exact this.2.1,this.2.2⟩
 ·rw[h.size];exact r.size
 exact r.below.trans ⟨h.os,h.tape,h.output,Nat.le_of_eq h.size.symm,fun k hk=>h.block k (by rintro rfl;exact hk hB.1)⟩
end
abbrev qT:=Nat->Option (List PD)
def zZT (G:qT) (M:qY):Prop:=∀ (g:Nat) cs,G g=some cs->(∀ (j:Nat) d,cs[j]?=some d->∃ u,M g j=some u/\u.oneCell'=true)/\(∀ (j:Nat) d u,cs[j]?=some d->M g j=some u->Rd M u d)
theorem zZT.mono {G:qT} {M M':qY} (h:∀ b o v,M b o=some v->M' b o=some v) (g:zZT G M):zZT G M':=by
 intro n cs hn;obtain⟨h1,h2⟩:=g n cs hn;refine⟨fun j d hd => ?_,fun j d u hd hu => ?_⟩
 ·obtain⟨u,hu,hc⟩:=h1 j d hd;exact⟨u,h _ _ _ hu,hc⟩
 obtain⟨u',hu',_⟩:=h1 j d hd;have:=h _ _ _ hu';rw[this]at hu;cases hu;exact(h2 j d _ hd hu').mono h
def zLM:List PD->Bool
 | .int .u64 _::_=>true
 | _=>false
def GX (G:qT) (w:World):Prop:=∀ (g:Nat) cs,G g=some cs->zLM cs=true->∃ arr t q,w.heap[g]?=some (.cells arr t q)/\arr.size=cs.length
def GOK (G:qT) (M:qY) (w:World):Prop:=zZT G M/\GX G w
def qAD (G:qT) (c:Ctx):Prop:=GOK G c.M0 c.w0/\∀ (g:Nat) cs,G g=some cs->zLM cs=true->¬ c.mine g
theorem nV (c:Ctx):qAD (fun _=>none) c:=⟨⟨fun g cs h=>(by cases h),fun g cs h=>(by cases h)⟩,fun g cs h=>(by cases h)⟩
theorem qAD.go {G:qT} {c:Ctx} {M:qY} {μ:Mu} {st:St} {tmps:Array Value} {w:World} (hg:qAD G c) (rel:Rel c M μ st tmps w):GOK G M w:=by
 refine⟨hg.1.1.mono rel.ext,fun g cs h1 h2 => ?_⟩;obtain⟨arr,t,q,h3,h4⟩:=hg.1.2 g cs h1 h2;exact⟨arr,t,q,(rel.below.block g (hg.2 g cs h1 h2)).trans h3,h4⟩
theorem GOK.ctx {G:qT} {M:qY} {w:World} (hg:GOK G M w) (μ:Mu):qAD G ⟨w.heap.size,w,M,μ,fun _=>False⟩:=by
 refine⟨hg,fun g cs h1 h2 h => ?_⟩;obtain⟨arr,t,q,h3,_⟩:=hg.2 g cs h1 h2;have h5:g<w.heap.size:=(cC.1 h3).1;rcases h with h|h
 ·exact absurd h5 (by simpa using h)
 exact h
theorem GOK.ctxL {G:qT} {M:qY} {w:World} (hg:GOK G M w) (μ:Mu) (L:Nat->Prop) (hL:∀ b,L b->∀ o,M b o=none):qAD G ⟨w.heap.size,w,M,μ,L⟩:=by
 refine⟨hg,fun g cs h1 h2 h => ?_⟩;obtain⟨arr,t,q,h3,_⟩:=hg.2 g cs h1 h2;have h5:g<w.heap.size:=(cC.1 h3).1;rcases h with h|h
 ·exact absurd h5 (by simpa using h)
 cases cs with
 | nil=>cases h2
 | cons d cs =>
  obtain⟨u,hu,_⟩:=(hg.1 g _ h1).1 0 d rfl;rw[hL g h 0]at hu;cases hu
def zVX (c:Ctx) (Q:Exit->St->Prop) (e:Exit) (a:Act) (w:World):Prop:=∃ st M μ,Rel c M μ st a.tmps w/\a.defers=[]/\Q e st
def AW (P:Program) (G:qT) (c:Code) (Q:Exit->St->Prop) (st:St):Prop :=
 ∀ (x:Ctx) (M:qY) (μ:Mu) (tmps:Array Value) (w:World),qAD G x->Rel x M μ st tmps w->c.wp P (zVX x Q) ⟨tmps,[]⟩ w
def zZ (P:Program) (G:qT) (ops:Array Oper) (Q:Exit->St->Prop) (l:List Oper) (st:St):Prop :=
 ∀ (x:Ctx) (M:qY) (μ:Mu) (tmps:Array Value) (w:World),qAD G x->Rel x M μ st tmps w->wpList P ops (zVX x Q) l ⟨tmps,[]⟩ w
section
variable {P:Program} {G:qT} {Q:Exit->St->Prop} {st:St}
theorem AW.weaken {c:Code} {st':St} (h:St.Le st st') (k:AW P G c Q st'):AW P G c Q st :=
 fun x M μ tmps w hg r=>k x M μ tmps w hg (r.weaken h)
theorem AW.mono {c:Code} {Q':Exit->St->Prop} (k:AW P G c Q st) (h:∀ e s,Q e s->Q' e s):AW P G c Q' st :=
 fun x M μ tmps w hg r=>wp_mono (k x M μ tmps w hg r) fun _ _ _ ⟨s,M',μ',r',hd,q⟩=>⟨s,M',μ',r',hd,h _ _ q⟩
def andThen (k:St->Prop) (Q:Exit->St->Prop):Exit->St->Prop
 | .normal,s=>k s
 | e,s=>Q e s
theorem AW.seq {a b:Code} (h:AW P G a (andThen (AW P G b Q) Q) st):AW P G (.seq a b) Q st:=by
 intro x M μ tmps w hg r;refine wp_seq (wp_mono (h x M μ tmps w hg r) ?_);rintro e ⟨tm,df⟩ w' ⟨s,M',μ',r',hd,q⟩;cases e with
 | normal =>
  simp only at hd;subst hd;exact q x M' μ' tm w' hg r'
 | _=>exact⟨s,M',μ',r',hd,q⟩
theorem AW.skip (h:Q .normal st):AW P G .skip Q st:=fun _ M μ _ _ _ r=>wp_skip ⟨st,M,μ,r,rfl,h⟩
theorem AW.exit {id:Nat} (h:Q (.exit id) st):AW P G (.exit id) Q st:=fun _ M μ _ _ _ r=>wp_exit ⟨st,M,μ,r,rfl,h⟩
theorem AW.ret (h:Q .ret st):AW P G .ret Q st:=fun _ M μ _ _ _ r=>wp_ret ⟨st,M,μ,r,rfl,h⟩
def inBlock (id:Nat) (Q:Exit->St->Prop):Exit->St->Prop
 | .exit i,s=>if i=id then Q .normal s else Q (.exit i) s
 | e,s=>Q e s
theorem AW.block {id:Nat} {c:Code} (h:AW P G c (inBlock id Q) st):AW P G (.block id c) Q st:=by
 intro x M μ tmps w hg r;refine wp_block (wp_mono (h x M μ tmps w hg r) ?_);rintro e a w' ⟨s,M',μ',r',hd,q⟩;cases e with
 | exit i =>
  simp only[inBlock,Exit.inBlock]at q ⊢;split
  ·rename_i hi;rw[bE hi]at q;exact⟨s,M',μ',r',hd,q⟩
  rename_i hi;rw[bD hi]at q;exact⟨s,M',μ',r',hd,q⟩
 | _=>exact⟨s,M',μ',r',hd,q⟩
theorem AW.loop {c:Code} {α:Type} (I:α->Prop) (S:α->St) (m:α->Nat) (a0:α) (hI0:I a0) (h0:St.Le st (S a0))
  (round:∀ a,I a->AW P G c (andThen (fun s=>∃ a',I a'/\m a'<m a/\St.Le s (S a')) Q) (S a)):AW P G (.loop c) Q st:=by
 intro x M μ tmps w hg r;have r0:=r.weaken h0;intro b k cs;have key:∀ n a M μ tmps w,I a->m a=n->Rel x M μ (S a) tmps w ->
   ∃ e a' w',zVX x Q e a' w'/\Arrives P (lone (b.at ⟨tmps,[]⟩ (.code c :: .inLoop c::k)) cs w) b k cs e a' w':=by
  intro n;induction n using Nat.strongRecOn with
  | _ n ih =>
   intro a M μ tmps w hI hn r;have h1:=round a hI x M μ tmps w hg r;obtain⟨e,a₁,w₁,hq,harr⟩:=h1 b (.inLoop c::k) cs;obtain⟨s,M',μ',r',hd,q⟩:=hq;cases e with
   | normal =>
    obtain⟨a',hI',hlt,hle⟩:=q;obtain⟨tm,df⟩:=a₁;simp only at hd;subst hd;obtain⟨e₂,a₂,w₂,hq₂,harr₂⟩:=ih (m a') (hn ▸ hlt) a' M' μ' tm w₁ hI' rfl (r'.weaken hle);exact⟨e₂,a₂,w₂,hq₂,.of_steps (Steps.trans harr (.one step_inLoop)) harr₂⟩
   | exit id=>exact⟨_,a₁,w₁,⟨s,M',μ',r',hd,q⟩,.pass (x := .inLoop c) rfl (fun _ _ => .inl (by simp)) harr⟩
   | goto l=>exact⟨_,a₁,w₁,⟨s,M',μ',r',hd,q⟩,.pass (x := .inLoop c) rfl (fun _ _ => .inl (by simp)) harr⟩
   | ret=>exact⟨_,a₁,w₁,⟨s,M',μ',r',hd,q⟩,.pass (x := .inLoop c) rfl (fun _ _ => .inl (by simp)) harr⟩
   | panic ch=>exact⟨_,a₁,w₁,⟨s,M',μ',r',hd,q⟩,.pass (x := .inLoop c) rfl (fun _ _ => .inl (by simp)) harr⟩
   | outgrown=>exact⟨_,a₁,w₁,⟨s,M',μ',r',hd,q⟩,.pass (x := .inLoop c) rfl (fun _ _ => .inl (by simp)) harr⟩
 obtain⟨e,a',w',hq,harr⟩:=key _ a0 M μ tmps w hI0 rfl r0;exact⟨e,a',w',hq,.of_steps (.one step_loop) harr⟩
theorem AW.region {id:Nat} {l:List Oper} (h:zZ P G l.toArray Q l st):AW P G (.region id l.toArray false) Q st :=
 fun x M μ tmps w hg r=>wp_region_lit (h x M μ tmps w hg r)
theorem zZ.nil {ops:Array Oper} (h:Q .normal st):zZ P G ops Q [] st:=fun _ M μ _ _ _ r=>wpList_nil ⟨st,M,μ,r,rfl,h⟩
theorem zZ.weaken {ops:Array Oper} {l:List Oper} {st':St} (h:St.Le st st') (k:zZ P G ops Q l st'):zZ P G ops Q l st :=
 fun x M μ tmps w hg r=>k x M μ tmps w hg (r.weaken h)
def zJU (P:Program) (next:Value->World->Prop):Result Next->Prop
 | .ok (.value v) w=>next v w
 | .ok .skip w=>next undef w
 | .ok (.enter f args) w=>Calls P f args w fun e w'=>∃ v,e = .returned v/\next v w'
 | _=>False
theorem xG {o:Oper} {a:Act} {w:World} {K:Act->World->Prop} {R:Exit->Act->World->Prop} {next:Value->World->Prop}
  (h:zJU P next ((execOp a.eval o).run P w)) (k:∀ v w',next v w'->K (a.put o.dst v) w'):o.wp P a w K R:=by
 unfold Oper.wp;generalize (execOp a.eval o).run P w=r at h;cases r with
 | halt x w'=>exact h.elim
 | ok n w' =>
  cases n <;> simp only[zJU]at h
  case value v=>rw[Oper.upon_value];exact k _ _ h
  case skip=>rw[Oper.upon_skip];exact k _ _ h
  case enter f args =>
   rw[Oper.upon_enter];refine h.mono ?_;rintro e w'' ⟨v,rfl,hn⟩;exact k _ _ hn
def Yields (P:Program) (G:qT) (o:Oper) (st:St) (x:V) (st':St):Prop :=
 ∀ (c:Ctx) (M:qY) (μ:Mu) (tmps:Array Value) (w:World),qAD G c->Rel c M μ st tmps w ->
  zJU P (fun u w'=>∃ M' μ',Rel c M' μ' st' tmps w'/\RV M' μ' u x) ((execOp (Act.eval ⟨tmps,[]⟩) o).run P w)
theorem zZ.step {ops:Array Oper} {o:Oper} {rest:List Oper} {x:V} {st':St} (hgd:o.guard=none) (h:Yields P G o st x st')
  (k:zZ P G ops Q rest (st'.put o.dst x)):zZ P G ops Q (o::rest) st:=by
 intro c M μ tmps w hg r;refine wpList_plain hgd fun K hK=>xG (h c M μ tmps w hg r) ?_;rintro u w' ⟨M',μ',r',hv⟩;apply hK;rw[lO];exact k c M' μ' _ w' hg (r'.put hv o.dst)
def iZ (pol:Bool):V->Option Bool
 | .p (.bool b)=>some (b == pol)
 | .when c x=>(iZ pol x).map (c && ·)
 | _=>none
theorem lW {pol:Bool} {M:qY} {μ:Mu} {u:Value} {x:V} (r:RV M μ u x):∀ {b:Bool},iZ pol x=some b->(b=true->u = .bool pol)/\(b=false->u ≠ .bool pol):=by
 induction r with
 | p r =>
  intro b hb;cases r with
  | bool t=>simp only[iZ,Option.some.injEq]at hb;subst hb;cases t <;> cases pol <;> simp
  | _=>simp[iZ]at hb
 | @when u c x h1 h2 ih =>
  intro b hb;simp only[iZ,bF]at hb;obtain⟨t,ht,rfl⟩:=hb;cases c with
  | true=>simpa using ih rfl ht
  | false=>have:=h2 rfl;subst this;simp[undef]
 | _=>intro b hb;simp[iZ]at hb
def vV:Value->Option Bool
 | .bool t=>some t
 | _=>none
theorem mG {ops:Array Oper} {o:Oper} {rest:List Oper} {x:V} {j:Nat} {pol:Bool} {d:Nat} {b:Bool} (hgd:o.guard=some (j,pol))
  (hd:(ops[j]?).bind (·.dst)=some d) (hlt:d<st.tmps.length)
  (hb:iZ pol (st.tmps.getD d .dead)=some b)
  (h:b=true->Yields P G o st x st)
  (k:zZ P G ops Q rest (st.put o.dst (.when b x))):zZ P G ops Q (o::rest) st:=by
 intro c M μ tmps w hg r;refine wpList_step fun K hK => ?_;have hget:∃ u,tmps[d]?=some u:=by
  have:=r.slots.1;exact⟨tmps[d]'(by omega),by simp[show d<tmps.size by omega]⟩
 obtain⟨u0,hu0⟩:=hget;have hx0:st.tmps[d]?=some (st.tmps.getD d .dead):=by simp[List.getD,hlt]
 obtain⟨hb1,hb2⟩:=lW (r.slots.2 d u0 _ hu0 hx0) hb;have hy:yielded ops tmps j=vV u0:=by
  have e1:∀ o:Option Value,o=some u0->(match o with|some (.bool b)=>some b|_=>none)=vV u0:=by
   rintro _ rfl;cases u0 <;> rfl
  unfold yielded;rw[hd];exact e1 _ hu0
 have fin:∀ (M':qY) (μ':Mu) (u:Value) (w':World),Rel c M' μ' st tmps w'->(b=true->RV M' μ' u x)->(b=false->u=undef)->K (Act.put ⟨tmps,[]⟩ o.dst u) w':=by
  intro M' μ' u w' r' hv hv';apply hK;rw[lO];exact k c M' μ' _ w' hg (r'.put (.when hv hv') o.dst)
 cases hbv:b with
 | true =>
  have hu:=hb1 hbv;subst hu;rw[bE (by simp[Region.wanted,hgd,hy,vV])];refine xG (h hbv c M μ tmps w hg r) ?_;rintro u w' ⟨M',μ',r',hv⟩;exact fin M' μ' u w' r' (fun _=>hv) (fun e=>by rw[hbv]at e;cases e)
 | false =>
  have hu:=hb2 hbv;rw[bD (by
   simp only[Region.wanted,hgd,hy];cases u0 with
   | bool t=>simp only[vV,dD,Option.some.injEq];rintro rfl;exact hu rfl
   | _=>simp[vV])]
  exact fin M μ undef w r (fun e=>by rw[hbv]at e;cases e) fun _=>rfl
theorem mR {ops:Array Oper} {o:Oper} {rest:List Oper} {x:V} {st':St} {j:Nat} {pol:Bool} {d:Nat} (hgd:o.guard=some (j,pol))
  (hd:(ops[j]?).bind (·.dst)=some d) (hlt:d<st.tmps.length)
  (hb:iZ pol (st.tmps.getD d .dead)=some true)
  (h:Yields P G o st x st')
  (k:zZ P G ops Q rest (st'.put o.dst (.when true x))):zZ P G ops Q (o::rest) st:=by
 intro c M μ tmps w hg r;refine wpList_step fun K hK => ?_;have hget:∃ u,tmps[d]?=some u:=by
  have:=r.slots.1;exact⟨tmps[d]'(by omega),by simp[show d<tmps.size by omega]⟩
 obtain⟨u0,hu0⟩:=hget;have hx0:st.tmps[d]?=some (st.tmps.getD d .dead):=by simp[List.getD,hlt]
 obtain⟨hb1,_⟩:=lW (r.slots.2 d u0 _ hu0 hx0) hb;have hu:=hb1 rfl;subst hu;have hy:yielded ops tmps j=some pol:=by
  have e1:∀ o:Option Value,o=some (.bool pol)->(match o with|some (.bool b)=>some b|_=>none)=some pol:=by
   rintro _ rfl;rfl
  unfold yielded;rw[hd];exact e1 _ hu0
 rw[bE (by simp[Region.wanted,hgd,hy])];refine xG (h c M μ tmps w hg r) ?_;rintro u w' ⟨M',μ',r',hv⟩;apply hK;rw[lO];exact k c M' μ' _ w' hg (r'.put (.when (fun _=>hv) (fun e=>by cases e)) o.dst)
theorem nM {ops:Array Oper} {o:Oper} {rest:List Oper} {j:Nat} {pol:Bool} {d:Nat} (hgd:o.guard=some (j,pol))
  (hd:(ops[j]?).bind (·.dst)=some d) (hlt:d<st.tmps.length)
  (hb:iZ pol (st.tmps.getD d .dead)=some false) {x:V}
  (k:zZ P G ops Q rest (st.put o.dst (.when false x))):zZ P G ops Q (o::rest) st :=
 mG hgd hd hlt hb (fun e=>by cases e) k
end
def AF (P:Program) (G:qT) (f:FuncId) (args:List PD) (r:PD):Prop :=
 ∀ (M:qY) (w:World) (vs:Array Value),GOK G M w->(∀ b o v,M b o=some v->w.cell? ⟨b,o,none⟩=some v)->vs.size=args.length ->
  (∀ (i:Nat) u d,vs[i]?=some u->args[i]?=some d->Rd M u d) ->
  Calls P f vs w fun e w'=>∃ v M',e = .returned v/\Rd M' v r/\(∀ b o v,M' b o=some v->w'.cell? ⟨b,o,none⟩=some v)/\(∀ b o v,M b o=some v->M' b o=some v) /\
   (∀ b o,b<w.heap.size->M' b o=M b o)/\RowKit.Below w.heap.size w w'
inductive TK where
 | bool|int (k:IntKind)|str|sl (e:TypeId)|ar (n:Nat) (e:TypeId)|st (fs:List (Nat × TypeId))|ptr (e:TypeId)|map (k e:TypeId)|fn|iface|other
 deriving DecidableEq
def TK.of:TypeDesc->TK
 | .bool => .bool
 | .int k => .int k
 | .string => .str
 | .slice e => .sl e
 | .array n e => .ar n e
 | .struct fs => .st (fs.toList.map fun f=>(f.offset,f.type))
 | .pointer e => .ptr e
 | .map k e => .map k e
 | .func _ _ _ => .fn
 | .interface _ => .iface
 | _ => .other
def TK.agg:TK->Bool
 | .ar _ _ | .st _=>true
 | _=>false
def kS:IntKind->Int
 | .i8 => -128 | .i16 => -32768 | .i32 => -2147483648 | .i64 => -9223372036854775808|_=>0
def kT:IntKind->Int
 | .i8=>127 | .i16=>32767 | .i32=>2147483647 | .i64=>9223372036854775807
 | .u8=>255 | .u16=>65535 | .u32=>4294967295 | .u64=>18446744073709551615
theorem xC (k:IntKind):k.min=kS k:=by cases k <;> rfl
theorem jI (k:IntKind):k.max=kT k:=by cases k <;> rfl
def qKE:Value->V
 | .bool b => .p (.bool b)
 | .int k n=>if kS k<=n/\n<=kT k then .p (.int k n) else .dead
 | .string s=>if s.data.toList.length<=maxLen then .p (.str s.data.toList) else .dead
 | .pointer none => .p .nilp
 | .slice none 0 0 => .nilsl
 | .nilFunc => .p .nilf
 | _ => .dead
def qIT:Value->V
 | .agg cs=>if cs.toList.all (·.oneCell') then .agg (cs.toList.map qKE) else .dead
 | v=>qKE v
theorem qLR (M:qY) (μ:Mu) (v:Value):RV M μ v (qKE v):=by
 unfold qKE;split
 ·exact .p (.bool _)
 ·rename_i k n;split
  ·rename_i h;exact .p (.int (by rw[xC];exact h.1) (by rw[jI];exact h.2))
  exact .dead
 ·split
  ·exact .p (.str rfl (by assumption))
  exact .dead
 ·exact .p .nilp
 ·exact .nilsl
 ·exact .p .nilf
 exact .dead
theorem vG (M:qY) (μ:Mu) (v:Value):RV M μ v (qIT v):=by
 unfold qIT;split
 ·rename_i cs;split
  case isFalse=>exact .dead
  rename_i hone;rw[bR]at hone;refine .agg (by simp) (fun i u hu=>hone u (by simpa using Array.mem_of_getElem? hu)) fun i u x hu hx => ?_;have h1:(cs.toList.map qKE)[i]?=some (qKE u):=by simp[hu]
  rw[h1]at hx;cases hx;exact qLR _ _ _
 exact qLR _ _ _
structure TI where
 k:TK
 size:Nat
 bytes:Nat
 zero:V
 eqOk:Bool
abbrev Tab:=TypeId->Option TI
def wCN (P:Program) (t:TypeId) (d:TypeDesc):Bool :=
 !P.stoodInHeld t && !P.eqGuardType P.depth t && (match d with | .struct fs => fs.toList.all fun f => f.name != "_" | _ => true)
noncomputable def zE (P:Program) (t:TypeId):Option TI :=
 match P.info? t,P.underlying t with
 | some i,some d=>some { k:=TK.of d,size:=i.size,bytes:=i.bytes,zero:=(i.zero.map qIT).getD .dead,eqOk:=wCN P t d }
 | _,_=>none
def TOK (P:Program) (T:Tab):Prop:=∀ t ti,T t=some ti->zE P t=some ti
theorem TOK.get {P:Program} {T:Tab} (h:TOK P T) {t:TypeId} {ti:TI} (ht:T t=some ti) :
  ∃ i d,P.info? t=some i/\P.underlying t=some d/\TK.of d=ti.k/\i.size=ti.size/\i.bytes=ti.bytes/\(i.zero.map qIT).getD .dead=ti.zero /\
   wCN P t d=ti.eqOk:=by
 have:=h t ti ht;unfold zE at this;split at this
 ·rename_i i d hi hd;cases this;exact⟨i,d,hi,hd,rfl,rfl,rfl,rfl,rfl⟩
 cases this
def V.strip:V->Prop × V
 | .when b x=>(b=true/\x.strip.1,x.strip.2)
 | x=>(True,x)
theorem oG {M:qY} {μ:Mu} {u:Value} {x:V} (r:RV M μ u x):x.strip.1->RV M μ u x.strip.2:=by
 induction r with
 | when h1 h2 ih=>exact fun h=>ih h.1 h.2
 | p r=>exact fun _ => .p r
 | dead=>exact fun _ => .dead
 | nilsl=>exact fun _ => .nilsl
 | ptr h=>exact fun _ => .ptr h
 | rptr h=>exact fun _ => .rptr h
 | tl h h2 h3=>exact fun _ => .tl h h2 h3
 | cptr h1 h2=>exact fun _ => .cptr h1 h2
 | ms h h2=>exact fun _ => .ms h h2
 | it h=>exact fun _ => .it h
 | func h1 h2 h3 h4 _ _=>exact fun _ => .func h1 h2 h3 h4
 | agg h1 h2 h3 _=>exact fun _ => .agg h1 h2 h3
 | tuple h1 h2 _=>exact fun _ => .tuple h1 h2
def St.ev (st:St) (G:qT):Operand->V
 | .tmp t=>st.tmps.getD t .dead
 | .const v=>qIT v
 | .global g=>match G g with
  | some cs => .cptr cs
  | none => .dead
 | .func f => .p (.fn f)
theorem qEZ {G:qT} {c:Ctx} {M:qY} {μ:Mu} {st:St} {tmps:Array Value} {w:World} (hg:qAD G c) (r:Rel c M μ st tmps w) (x:Operand) :
  RV M μ (Act.eval ⟨tmps,[]⟩ x) (st.ev G x):=by
 cases x with
 | tmp t =>
  simp only[Act.eval,St.ev];have h1:=r.slots.1;by_cases h:t<st.tmps.length
  ·have hx:st.tmps[t]?=some (st.tmps.getD t .dead):=by simp[List.getD,h]
   have hlt:t<tmps.size:=by rw[h1];exact h
   have hu:tmps[t]?=some (tmps.getD t undef):=by simp[Array.getD,hlt]
   exact r.slots.2 t _ _ hu hx
  have:st.tmps.getD t .dead = .dead:=by simp[List.getD,cL (fO h)]
  rw[this];exact .dead
 | const v=>exact vG _ _ _
 | func f=>exact .p (.fn f)
 | global g =>
  simp only[Act.eval,St.ev];cases hG:G g with
  | none=>exact .dead
  | some cs =>
   obtain⟨h1,h2⟩:=(hg.go r).1 g cs hG;exact .cptr (by simpa using h1) (by simpa using h2)
def zHK:List V->Option (List PD)
 | []=>some []
 | .p d::r=>match zHK r with
  | some ds=>some (d::ds)
  | none=>none
 | _::_=>none
def V.pur:V->V
 | .agg cs=>match zHK cs with
  | some ds => .p (.agg ds)
  | none => .agg cs
 | .p (.ref cs) => .cptr cs
 | .p (.clo f cs) => .func (.func f) [] (cs.map .p)
 | x=>x
theorem zDC:∀ {cs:List V} {ds:List PD},zHK cs=some ds->cs=ds.map .p
 | [],ds,h=>by simp only[zHK,Option.some.injEq]at h;subst h;rfl
 | x::r,ds,h=>by
  cases x with
  | p d =>
   simp only[zHK]at h;split at h
   ·rename_i ds' h';cases h;simp[zDC h']
   cases h
  | _=>simp[zHK]at h
theorem RV.p_inv {M:qY} {μ:Mu} {u:Value} {d:PD} (h:RV M μ u (.p d)):Rd M u d:=by cases h;assumption
theorem oU {M:qY} {μ:Mu} {u:Value} {x:V} (r:RV M μ u x):RV M μ u x.pur:=by
 cases x with
 | agg cs =>
  simp only[V.pur];split
  ·rename_i ds h;have:=zDC h;subst this;cases r with
   | agg h1 h2 h3 =>
    refine .p (.agg (by simpa using h1) h2 fun i u d hu hd => ?_);exact(h3 i u (.p d) hu (by simp[hd])).p_inv
  exact r
 | p d =>
  cases d with
  | ref cs =>
   cases r with
   | p r=>cases r with
    | ref h1 h2=>exact .cptr h1 h2
  | clo f cs =>
   cases r with
   | p r=>cases r with
    | clo h1 h2 =>
     refine .func rfl (by simpa using h1) (fun i u x hu=>by simp at hu) fun i u x hu hx => ?_;rw[bG]at hx;obtain⟨y,hy,rfl⟩:=bF.1 hx;exact .p (h2 i u y hu hy)
  | _=>exact r
 | _=>exact r
def St.arg (st:St) (G:qT) (x:Operand):Prop × V:=match (st.ev G x).strip with
 | (p,y)=>(p,y.pur)
theorem qF {G:qT} {c:Ctx} {M:qY} {μ:Mu} {st:St} {tmps:Array Value} {w:World} (hg:qAD G c) (r:Rel c M μ st tmps w) {x:Operand} {p:Prop} {y:V}
  (h:st.arg G x=(p,y)) (hp:p):RV M μ (Act.eval ⟨tmps,[]⟩ x) y:=by
 have h1:=oG (qEZ hg r x);unfold St.arg at h;split at h;rename_i q z hz;rw[hz]at h1;cases h;exact oU (h1 hp)
def PD.ite (t:Bool):PD->PD->PD
 | .bool a,.bool b => .bool (if t then a else b)
 | a,b=>if t then a else b
theorem Rd.ite {M:qY} {u:Value} {t:Bool} {a b:PD} (h1:t=true->Rd M u a) (h2:t=false->Rd M u b):Rd M u (PD.ite t a b):=by
 unfold PD.ite;cases t
 ·have:=h2 rfl;split <;> simpa using this
 have:=h1 rfl;split <;> simpa using this
def zIH (op:BinOp) (k:IntKind) (a b:Int):Option (Prop × PD) :=
 match op with
 | .add=>if k.signed then some (kS k<=a+b/\a+b<=kT k,.int k (a+b)) else some (True,.int k (k.wrap (a+b)))
 | .sub=>if k.signed then some (kS k<=a-b/\a-b<=kT k,.int k (a-b)) else some (True,.int k (k.wrap (a-b)))
 | .mul=>if k.signed then some (kS k<=a * b/\a * b<=kT k,.int k (a * b)) else some (True,.int k (k.wrap (a * b)))
 | .quo=>some (b≠0,.int k (k.wrap (a.tdiv b)))
 | .rem=>some (b≠0,.int k (a.tmod b))
 | .and=>some (True,.int k (k.wrap (BitVec.ofInt k.bits a &&& BitVec.ofInt k.bits b).toNat))
 | .or=>some (True,.int k (k.wrap (BitVec.ofInt k.bits a ||| BitVec.ofInt k.bits b).toNat))
 | .xor=>some (True,.int k (k.wrap (BitVec.ofInt k.bits a ^^^ BitVec.ofInt k.bits b).toNat))
 | .andNot=>some (True,.int k (k.wrap (BitVec.ofInt k.bits a &&& ~~~BitVec.ofInt k.bits b).toNat))
 | .eql=>some (True,.bool (decide (a=b)))
 | .neq=>some (True,.bool (!decide (a=b)))
 | .lss=>some (True,.bool (decide (a<b)))
 | .leq=>some (True,.bool (decide (a<=b)))
 | .gtr=>some (True,.bool (decide (a > b)))
 | .geq=>some (True,.bool (decide (a >= b)))
 | _=>none
def qHO (op:BinOp) (k:IntKind) (a b:Int):Option (Prop × PD) :=
 match op with
 | .shl=>some (0<=b,.int k (k.wrap (a * 2 ^ (min b.toNat k.bits))))
 | .shr=>some (0<=b,.int k (a.fdiv (2 ^ (min b.toNat k.bits))))
 | _=>none
def zGZ (op:BinOp) (a b:List UInt8):Option (Prop × PD) :=
 match op with
 | .add=>some (a.length+b.length<=9223372036854775807,.str (a++b))
 | .eql=>some (True,.bool (decide (a=b)))
 | .neq=>some (True,.bool (!decide (a=b)))
 | .lss=>some (True,.bool (Op.bytesLess a b))
 | .leq=>some (True,.bool (Op.bytesLess a b || decide (a=b)))
 | .gtr=>some (True,.bool (!(Op.bytesLess a b || decide (a=b))))
 | .geq=>some (True,.bool (!Op.bytesLess a b))
 | _=>none
theorem zRA (k:IntKind) (n:Int):k.min<=k.wrap n:=by
 cases k <;> simp[IntKind.min,IntKind.wrap,IntKind.signed,IntKind.bits] <;> (try split) <;> omega
theorem zRB (k:IntKind) (n:Int):k.wrap n<=k.max:=by
 cases k <;> simp[IntKind.max,IntKind.wrap,IntKind.signed,IntKind.bits] <;> (try split) <;> omega
theorem zKA (k:IntKind) (n:Int) (h1:kS k<=n) (h2:n<=kT k):k.wrap n=n:=by
 cases k <;> simp only[kS,kT]at h1 h2 <;> simp[IntKind.wrap,IntKind.signed,IntKind.bits] <;> (try split) <;> omega
theorem lA {M:qY} {k:IntKind} {n:Int} (h1:kS k<=n) (h2:n<=kT k):Rd M (.int k n) (.int k n) :=
 .int (by rw[xC];exact h1) (by rw[jI];exact h2)
theorem Rd.wrap (M:qY) (k:IntKind) (n:Int):Rd M (.int k (k.wrap n)) (.int k (k.wrap n)) := .int (zRA k n) (zRB k n)
theorem qLD {a:Int} (h:0<=a) (b:Int):a.tmod b<=a:=by
 obtain⟨n,rfl⟩:=Int.eq_ofNat_of_zero_le h;have e:Int.tmod (n:Int) b=((n % b.natAbs:Nat):Int):=by
  cases b with
  | ofNat m=>rfl
  | negSucc m=>rfl
 rw[e];have:=Nat.mod_le n b.natAbs;omega
theorem zGX (k:IntKind) (a b:Int) (ha1:kS k<=a) (ha2:a<=kT k):kS k<=a.tmod b/\a.tmod b<=kT k:=by
 have h0:kS k<=0/\0<=kT k:=by cases k <;> simp[kS,kT]
 by_cases h:0<=a
 ·have h1:=Int.tmod_nonneg b h;have h2:a.tmod b<=a:=by
   exact qLD h b
  omega
 have e:a.tmod b = -((-a).tmod b):=by rw[Int.neg_tmod];omega
 have h1:=Int.tmod_nonneg b (show 0 ≤ -a by omega);have h2:(-a).tmod b ≤ -a:=by
  exact qLD (by omega) b
 omega
theorem zIO (k:IntKind) (a:Int) (n:Nat) (ha1:kS k<=a) (ha2:a<=kT k):kS k<=a.fdiv (2 ^ n)/\a.fdiv (2 ^ n)<=kT k:=by
 have h0:kS k<=0/\0<=kT k:=by cases k <;> simp[kS,kT]
 have hp:(0:Int)<2 ^ n:=Int.pow_pos (by omega);rw[eA _ (by omega)];constructor
 ·by_cases h:0<=a
  ·have:=Int.ediv_nonneg h (show(0:Int)<=2 ^ n by omega);omega
  refine Int.le_trans ha1 ?_;rw[Int.le_ediv_iff_mul_le hp];have:a * 2 ^ n<=a * 1:=Int.mul_le_mul_of_nonpos_left (by omega) (by omega);omega
 by_cases h:0<=a
 ·have:=Int.ediv_le_self (2 ^ n) h;omega
 have:=Int.ediv_lt_of_lt_mul hp (show a<0 * 2 ^ n by omega);omega
def wC (T:Tab) (t:TypeId):Option TK:=(T t).map fun x=>x.k
theorem TOK.kind {P:Program} {T:Tab} (h:TOK P T) {t:TypeId} {k:TK} (ht:wC T t=some k):∃ d,P.underlying t=some d/\TK.of d=k:=by
 obtain⟨ti,hti,rfl⟩:=bF.1 ht;obtain⟨i,d,_,hd,hd2,_⟩:=h.get hti;exact⟨d,hd,hd2⟩
theorem nR {d:TypeDesc} {k:IntKind} (h:TK.of d = .int k):d = .int k:=by cases d <;> simp_all[TK.of]
theorem nC {d:TypeDesc} (h:TK.of d = .bool):d = .bool:=by cases d <;> simp_all[TK.of]
theorem nQ {d:TypeDesc} (h:TK.of d = .str):d = .string:=by cases d <;> simp_all[TK.of]
theorem nK {d:TypeDesc} {e:TypeId} (h:TK.of d = .sl e):d = .slice e:=by cases d <;> simp_all[TK.of]
theorem pK {d:TypeDesc} {n:Nat} {e:TypeId} (h:TK.of d = .ar n e):d = .array n e:=by cases d <;> simp_all[TK.of]
theorem pF {d:TypeDesc} {e:TypeId} (h:TK.of d = .ptr e):d = .pointer e:=by cases d <;> simp_all[TK.of]
theorem pG {d:TypeDesc} {k e:TypeId} (h:TK.of d = .map k e):d = .map k e:=by cases d <;> simp_all[TK.of]
theorem mM {d:TypeDesc} {fs:List (Nat × TypeId)} (h:TK.of d = .st fs):∃ l,d = .struct l/\l.toList.map (fun f=>(f.offset,f.type))=fs:=by
 cases d <;> simp_all[TK.of]
theorem TOK.int {P:Program} {T:Tab} (h:TOK P T) {t:TypeId} {k:IntKind} (ht:wC T t=some (.int k)):P.underlying t=some (.int k):=by
 obtain⟨d,hd,hd2⟩:=h.kind ht;rw[hd,nR hd2]
theorem TOK.bool {P:Program} {T:Tab} (h:TOK P T) {t:TypeId} (ht:wC T t=some .bool):P.underlying t=some .bool:=by
 obtain⟨d,hd,hd2⟩:=h.kind ht;rw[hd,nC hd2]
theorem TOK.str {P:Program} {T:Tab} (h:TOK P T) {t:TypeId} (ht:wC T t=some .str):P.underlying t=some .string:=by
 obtain⟨d,hd,hd2⟩:=h.kind ht;rw[hd,nQ hd2]
theorem TOK.sl {P:Program} {T:Tab} (h:TOK P T) {t e:TypeId} (ht:wC T t=some (.sl e)):P.underlying t=some (.slice e):=by
 obtain⟨d,hd,hd2⟩:=h.kind ht;rw[hd,nK hd2]
theorem TOK.ar {P:Program} {T:Tab} (h:TOK P T) {t e:TypeId} {n:Nat} (ht:wC T t=some (.ar n e)):P.underlying t=some (.array n e):=by
 obtain⟨d,hd,hd2⟩:=h.kind ht;rw[hd,pK hd2]
theorem TOK.ptr {P:Program} {T:Tab} (h:TOK P T) {t e:TypeId} (ht:wC T t=some (.ptr e)):P.underlying t=some (.pointer e):=by
 obtain⟨d,hd,hd2⟩:=h.kind ht;rw[hd,pF hd2]
def mX (T:Tab) (t:TypeId):PD->PD->Option Bool
 | .int k a,.int k' b=>if k=k'/\wC T t=some (.int k) then some (decide (a=b)) else none
 | .bool a,.bool b=>if wC T t=some .bool then some (a == b) else none
 | .str a,.str b=>if wC T t=some .str then some (decide (a=b)) else none
 | _,_=>none
def mO (T:Tab) (xs ys:List PD):List (Nat × TypeId)->Option Bool
 | []=>some true
 | (o,t)::fs=>match xs[o]?,ys[o]? with
  | some x,some y=>match mX T t x y,mO T xs ys fs with
   | some a,some b=>some (a && b)
   | _,_=>none
  | _,_=>none
def zAU (op:BinOp) (a b:Bool):Option (Prop × PD) :=
 match op with
 | .eql=>some (True,.bool (a == b))
 | .neq=>some (True,.bool (a != b))
 | _=>none
def qPO (op:BinOp) (b:Bool):Option (Prop × PD) :=
 match op with
 | .eql=>some (True,.bool b)
 | .neq=>some (True,.bool (!b))
 | _=>none
def oQ (T:Tab) (op:BinOp) (t:TypeId):PD->PD->Option (Prop × PD)
 | .int k a,.int k' b=>match op with
  | .shl=>qHO .shl k a b
  | .shr=>qHO .shr k a b
  | _=>if k=k' then zIH op k a b else none
 | .str a,.str b=>zGZ op a b
 | .bool a,.bool b=>if wC T t=some .bool then zAU op a b else none
 | .agg xs,.agg ys=>match T t with
  | some ⟨.st fs,_,_,_,true⟩=>match mO T xs ys fs with
   | some b=>qPO op b
   | none=>none
  | _=>none
 | .nilf,.nilf=>if wC T t=some .fn then qPO op true else none
 | .fn _,.nilf=>if wC T t=some .fn then qPO op false else none
 | _,_=>none
theorem qQG {b:ByteArray} {s:List UInt8} (h:b.data.toList=s):b.toList=s:=by rw[ByteArray.toList_eq];exact h
theorem vB {b:ByteArray} {s:List UInt8} (h:b.data.toList=s):b.size=s.length:=by subst h;exact(dY).symm
section
variable {P:Program} {T:Tab} {M:qY}
theorem zMI (a b:List UInt8):(a == b)=decide (a=b):=by rw[eM];simp
theorem qIO {t:TypeId} {d:TypeDesc} (hd:P.underlying t=some d) (w:World):(isAgg t).run P w = .ok (TK.of d).agg w:=by
 unfold isAgg;rw[Sem.run_bind,run_underlying hd];cases d <;> rfl
theorem qNN {t:TypeId} {d:TypeDesc} (hd:P.underlying t=some d) (ha:(TK.of d).agg=false) (cs:Array Value) (off:Nat) (v:Value) (hv:cs[off]?=some v) (w:World) :
  (part t cs off).run P w = .ok v w:=by
 unfold part;rw[Sem.run_bind,qIO hd,ha];simp[hv]
theorem zIT (hT:TOK P T) {t:TypeId} {a b:PD} {r:Bool} (h:mX T t a b=some r) {u v:Value} (hu:Rd M u a) (hv:Rd M v b) (n:Nat) (w:World) :
  (Op.equalIn (n+1) t u v).run P w = .ok r w/\∃ d,P.underlying t=some d/\(TK.of d).agg=false:=by
 unfold mX at h;split at h
 ·split at h
  ·rename_i hk;obtain⟨rfl,hk⟩:=hk;cases h;cases hu;cases hv;have hd:=hT.int hk;refine⟨?_,_,hd,rfl⟩;rw[run_equalIn_int (P:=P) w n t _ _ _ _ hd];congr 1
  cases h
 ·split at h
  ·rename_i hk;cases h;cases hu;cases hv;have hd:=hT.bool hk;exact⟨run_equalIn_bool' (P:=P) w n t _ _ hd,_,hd,rfl⟩
  cases h
 ·split at h
  ·rename_i hk;cases h;cases hu with
   | str hs1 _ =>
   cases hv with
   | str hs2 _ =>
   have hd:=hT.str hk;refine⟨?_,_,hd,rfl⟩;rw[run_equalIn_string (P:=P) w n t _ _ hd,qQG hs1,qQG hs2,zMI]
  cases h
 cases h
theorem qTR (hT:TOK P T) {xs ys:Array Value} {as bs:List PD} (hx:∀ (i:Nat) u d,xs[i]?=some u->as[i]?=some d->Rd M u d) (hxs:xs.size=as.length)
  (hy:∀ (i:Nat) u d,ys[i]?=some u->bs[i]?=some d->Rd M u d) (hys:ys.size=bs.length) (n:Nat) (w:World) :
  ∀ (fl : List Field) (r : Bool), (∀ f ∈ fl, f.name ≠ "_") → mO T as bs (fl.map fun f => (f.offset, f.type)) = some r → (Op.eqFields (n + 1) xs ys fl).run P w = .ok r w
 | [],r,_,h=>by cases h;simp[Op.eqFields]
 | f::fl,r,hn,h=>by
  simp only[bA,mO]at h;split at h
  ·rename_i a b ha hb;split at h
   ·rename_i r1 r2 h1 h2;cases h;have hxl:f.offset<xs.size:=by rw[hxs];exact(bB.1 ha).1
    have hyl:f.offset<ys.size:=by rw[hys];exact(bB.1 hb).1
    have hxu:xs[f.offset]?=some xs[f.offset]:=by simp[hxl]
    have hyu:ys[f.offset]?=some ys[f.offset]:=by simp[hyl]
    obtain⟨e1,d,hd,hag⟩:=zIT hT h1 (hx _ _ _ hxu ha) (hy _ _ _ hyu hb) n w;have ih:=qTR hT hx hxs hy hys n w fl r2 (fun g hg=>hn g (bM.2 (.inr hg))) h2;have p1:=qNN hd hag xs f.offset _ hxu w;have p2:=qNN hd hag ys f.offset _ hyu w;simp only[Op.eqFields,bE (hn f (bM.2 (.inl rfl)))];simp only[Sem.run_bind,p1,p2,e1,Result.andThen_ok];cases r1
    ·simp
    simp[ih]
   cases h
  cases h
theorem TOK.fn (hT:TOK P T) {t:TypeId} (h:wC T t=some .fn):∃ a b c,P.underlying t=some (.func a b c):=by
 unfold wC at h;cases ht:T t with
 | none=>rw[ht]at h;cases h
 | some ti =>
  rw[ht]at h;simp only[eV,Option.some.injEq]at h;obtain⟨i,d,_,hd,hd2,_⟩:=hT.get ht;rw[h]at hd2;cases d <;> simp[TK.of]at hd2
  exact⟨_,_,_,hd⟩
theorem zIM (hT:TOK P T) {op:BinOp} {t:TypeId} (ht:wC T t=some .fn) {b:Bool} {u:Value} (hu:(b=true/\u = .nilFunc)\/(b=false/\∃ f x y,u = .func f x y)) {v:Prop} {d:PD} (h:qPO op b=some (v,d)) (ox oy:Operand) (w:World) :
  ∃ r,(do eqGuard op t ox oy u .nilFunc;binOp op t u .nilFunc:Sem Value).run P w = .ok r w/\Rd M r d:=by
 obtain⟨a1,a2,a3,hd⟩:=hT.fn ht;have hg:(eqGuard op t ox oy u .nilFunc).run P w = .ok () w:=by rcases hu with⟨_,rfl⟩|⟨_,f,x,y,rfl⟩ <;> cases op <;> simp[eqGuard]
 have he:(Op.equal t u .nilFunc).run P w = .ok b w:=by
  have:∀ k,(Op.equalIn (k+1) t u .nilFunc).run P w = .ok b w:=fun k=>by rcases hu with⟨rfl,rfl⟩|⟨rfl,f,x,y,rfl⟩ <;> simp[Op.equalIn,run_underlying hd]
  exact this 9999
 have e1:binOp .eql t u .nilFunc=(do pure (.bool (<-Op.equal t u .nilFunc)):Sem Value):=by rcases hu with⟨_,rfl⟩|⟨_,f,x,y,rfl⟩ <;> rfl
 have e2:binOp .neq t u .nilFunc=(do pure (.bool (!(<-Op.equal t u .nilFunc))):Sem Value):=by rcases hu with⟨_,rfl⟩|⟨_,f,x,y,rfl⟩ <;> rfl
 simp only[Sem.run_bind,hg,Result.andThen_ok];unfold qPO at h;split at h
 ·simp only[Option.some.injEq,Prod.mk.injEq]at h;obtain⟨rfl,rfl⟩:=h;exact⟨.bool b,by rw[e1];simp only[Sem.run_bind,he,Result.andThen,Sem.run_pure],.bool _⟩
 ·simp only[Option.some.injEq,Prod.mk.injEq]at h;obtain⟨rfl,rfl⟩:=h;exact⟨.bool (!b),by rw[e2];simp only[Sem.run_bind,he,Result.andThen,Sem.run_pure],.bool _⟩
 cases h
theorem zZH (hT:TOK P T) {op:BinOp} {t:TypeId} {a b:PD} {v:Prop} {d:PD} (h:oQ T op t a b=some (v,d)) (hv:v) {x y:Value} (hx:Rd M x a) (hy:Rd M y b)
  (ox oy:Operand) (w:World):∃ r,(do eqGuard op t ox oy x y;binOp op t x y:Sem Value).run P w = .ok r w/\Rd M r d:=by
 unfold oQ at h;split at h
 ·rename_i k a k' b;cases hx with
  | int ha1 ha2 =>
  cases hy with
  | int hb1 hb2 =>
  have hg:(eqGuard op t ox oy (.int k a) (.int k' b)).run P w = .ok () w:=by cases op <;> simp[eqGuard]
  simp only[Sem.run_bind,hg,Result.andThen_ok];split at h
  ·simp only[qHO,Option.some.injEq,Prod.mk.injEq]at h;obtain⟨rfl,rfl⟩:=h;refine⟨_, ?_,Rd.wrap M k _⟩;simp[binOp,Op.shift,show ¬ b<0 by omega]
  ·simp only[qHO,Option.some.injEq,Prod.mk.injEq]at h;obtain⟨rfl,rfl⟩:=h;rw[xC]at ha1;rw[jI]at ha2;have hr:=zIO k a (min b.toNat k.bits) ha1 ha2;refine⟨_, ?_,lA hr.1 hr.2⟩;simp[binOp,Op.shift,show ¬ b<0 by omega]
  split at h
  ·rename_i hk;subst hk;unfold zIH at h;split at h
   case h_1|h_2|h_3 =>
    split at h
    ·simp only[Option.some.injEq,Prod.mk.injEq]at h;obtain⟨rfl,rfl⟩:=h;refine⟨_, ?_,lA hv.1 hv.2⟩;simp[binOp,Op.intArith,zKA k _ hv.1 hv.2]
    simp only[Option.some.injEq,Prod.mk.injEq]at h;obtain⟨rfl,rfl⟩:=h;exact⟨_,by simp[binOp,Op.intArith],Rd.wrap M k _⟩
   case h_4 =>
    simp only[Option.some.injEq,Prod.mk.injEq]at h;obtain⟨rfl,rfl⟩:=h;exact⟨_,by simp[binOp,Op.intDiv,hv],Rd.wrap M k _⟩
   case h_5 =>
    simp only[Option.some.injEq,Prod.mk.injEq]at h;obtain⟨rfl,rfl⟩:=h;rw[xC]at ha1;rw[jI]at ha2;have hr:=zGX k a b ha1 ha2;exact⟨_,by simp[binOp,Op.intDiv,hv],lA hr.1 hr.2⟩
   case h_6|h_7|h_8|h_9 =>
    simp only[Option.some.injEq,Prod.mk.injEq]at h;obtain⟨rfl,rfl⟩:=h;exact⟨_,by simp[binOp,Op.intBits],Rd.wrap M k _⟩
   case h_10|h_11|h_12|h_13|h_14|h_15 =>
    simp only[Option.some.injEq,Prod.mk.injEq]at h;obtain⟨rfl,rfl⟩:=h;refine⟨_, ?_,.bool _⟩;simp[binOp,Op.intCmp];try rfl
   case h_16=>cases h
  cases h
 ·rename_i a b;cases hx with
  | str hs1 hm1 =>
  cases hy with
  | str hs2 hm2 =>
  rename_i xb yb;have hg:(eqGuard op t ox oy (.string xb) (.string yb)).run P w = .ok () w:=by cases op <;> simp[eqGuard]
  simp only[Sem.run_bind,hg,Result.andThen_ok];have e1:=qQG hs1;have e2:=qQG hs2;unfold zGZ at h;split at h
  case h_1 =>
   simp only[Option.some.injEq,Prod.mk.injEq]at h;obtain⟨rfl,rfl⟩:=h;have z1:=vB hs1;have z2:=vB hs2;refine⟨.string (xb++yb), ?_,.str (by simp[hs1,hs2]) (by simp[maxLen];omega)⟩;simp[binOp,Op.stringOp,IntKind.max,IntKind.signed,IntKind.bits];omega
  case h_2|h_3|h_4|h_5|h_6|h_7 =>
   simp only[Option.some.injEq,Prod.mk.injEq]at h;obtain⟨rfl,rfl⟩:=h;refine⟨_, ?_,.bool _⟩;simp[binOp,Op.stringOp,e1,e2,zMI]
  case h_8=>cases h
 ·rename_i a b;split at h
  ·rename_i hk;have hd:=hT.bool hk;cases hx;cases hy;have hg:(eqGuard op t ox oy (.bool a) (.bool b)).run P w = .ok () w:=by cases op <;> simp[eqGuard]
   simp only[Sem.run_bind,hg,Result.andThen_ok];unfold zAU at h;split at h
   ·simp only[Option.some.injEq,Prod.mk.injEq]at h;obtain⟨rfl,rfl⟩:=h;refine⟨.bool (a == b), ?_,.bool _⟩;rw[run_eql_bool (P:=P) w t a b hd]
   ·simp only[Option.some.injEq,Prod.mk.injEq]at h;obtain⟨rfl,rfl⟩:=h;refine⟨.bool (a != b), ?_,.bool _⟩;simp only[binOp];simp[Op.equal,Op.maxDepth,run_equalIn_bool' (P:=P) w 9999 t a b hd];cases a <;> cases b <;> rfl
   cases h
  cases h
 ·rename_i as bs;split at h
  ·rename_i fs _ _ _ hti;split at h
   ·rename_i r hr;cases hx with
    | agg hs1 _h1 hx =>
    cases hy with
    | agg hs2 _h2 hy =>
    rename_i xs ys;obtain⟨i,d,_,hd,hd2,_,_,_,heq⟩:=hT.get hti;obtain⟨l,rfl,hl⟩:=mM hd2;simp only[wCN,bI,fF,bR,iJ]at heq;have hf:P.fieldsOf t=l:=by simp[Program.fieldsOf,hd]
    have hfl:P.underlying t=some (.struct (P.fieldsOf t)):=by rw[hf];exact hd
    have hg:=run_eqGuard_agg (P:=P) w op t ox oy xs ys heq.1.2;simp only[Sem.run_bind,hg,Result.andThen_ok];have he:=run_equalIn_struct (P:=P) w 9999 t xs ys hfl heq.1.1;rw[hf]at he;have hfin:=qTR hT hx hs1 hy hs2 9998 w l.toList r heq.2 (by rw[hl];exact hr);rw[hfin]at he;unfold qPO at h;split at h
    ·simp only[Option.some.injEq,Prod.mk.injEq]at h;obtain⟨rfl,rfl⟩:=h;exact⟨.bool r,by rw[run_eql_struct,he];rfl,.bool _⟩
    ·simp only[Option.some.injEq,Prod.mk.injEq]at h;obtain⟨rfl,rfl⟩:=h;exact⟨.bool (!r),by rw[run_neq_struct,he];rfl,.bool _⟩
    cases h
   cases h
  cases h
 ·split at h
  ·rename_i hk;cases hx;cases hy;exact zIM hT hk (.inl ⟨rfl,rfl⟩) h ox oy w
  cases h
 ·split at h
  ·rename_i hk;cases hx;cases hy;exact zIM hT hk (.inr ⟨rfl,_,_,_,rfl⟩) h ox oy w
  cases h
 cases h
end
def qWV (T:Tab) (st:St) (t:TypeId) (x:V) (orc:List PD):Option (Prop × V × List PD) :=
 match T t with
 | none=>none
 | some ti=>match x with
  | .cptr cs=>match ti.k.agg with
   | true=>some (ti.size<=cs.length,.p (.agg (cs.take ti.size)),orc)
   | false=>match cs with
    | d::_=>some (True,.p d,orc)
    | []=>none
  | .ptr id o=>match zS id st.H with
   | some (.vars _ cells)=>match ti.k.agg with
    | true=>some (o+ti.size<=cells.length,.agg ((cells.drop o).take ti.size),orc)
    | false=>match cells.drop o with
     | y::_=>some (True,y,orc)
     | []=>none
   | _=>none
  | .rptr id i sz o=>match zS id st.H with
   | some (.row _ sz' es)=>match orc with
    | e::orc'=>match ti.k.agg with
     | true=>some (sz=sz'/\es[i]?=some e/\o+ti.size<=sz,.p (.agg ((e.cells.drop o).take ti.size)),orc')
     | false=>match e.cells.drop o with
      | d::_=>some (sz=sz'/\es[i]?=some e,.p d,orc')
      | []=>none
    | []=>none
   | _=>none
  | _=>none
def nZ (T:Tab) (s d:TypeId) (a:PD):Option (Prop × PD) :=
 match wC T s,wC T d,a with
 | some (.int k),some (.int k'),.int k0 n=>if k=k0 then(if kS k'<=kS k/\kT k<=kT k' then some (True,.int k' n) else some (True,.int k' (k'.wrap n))) else none
 | some .str,some .str,.str b=>some (True,.str b)
 | _,_,_=>none
def zFW (st:St) (G:qT):Option Operand->Option (Prop × Option Int)
 | none=>some (True,none)
 | some x=>match st.arg G x with
  | (p,.p (.int _ n))=>some (p,some n)
  | _=>none
def qZB (T:Tab) (t:TypeId) (x:V) (lo hi:Option Int):Option (Prop × V) :=
 match wC T t,x with
 | some .str,.p (.str s) =>
  let l:=lo.getD 0
  let h:=hi.getD s.length
  some (0<=l/\l<=h/\h<=s.length,.p (.str ((s.take h.toNat).drop l.toNat)))
 | some (.sl el),.p (.sl sz es) =>
  let l:=lo.getD 0
  let h:=hi.getD es.length
  some ((T el).map (fun x=>x.size)=some sz/\0<=l/\l<=h/\h<=es.length,.p (.sl sz ((es.take h.toNat).drop l.toNat)))
 | _,_=>none
def qLZ (T:Tab) (st:St) (t:TypeId) (x:V):Option PD :=
 match wC T t,x with
 | some .str,.p (.str s)=>some (.int .i64 s.length)
 | some (.sl _),.p (.sl _ es)=>some (.int .i64 es.length)
 | some (.sl _),.nilsl=>some (.int .i64 0)
 | some (.sl _),.ms id=>match zS id st.H with
  | some (.row _ _ es)=>some (.int .i64 es.length)
  | _=>none
 | _,_=>none
def V.cells:V->Option (List V)
 | .agg cs=>some cs
 | .p (.agg ds)=>some (ds.map .p)
 | .p (.tup _)=>none
 | .tuple _=>none
 | .dead=>none
 | .when _ _=>none
 | x=>some [x]
def splice (l:List V) (o:Nat) (xs:List V):List V:=l.take o++xs++l.drop (o+xs.length)
def qGI (T:Tab) (st:St) (G:qT) (fs:List (Nat × TypeId)):List (Nat × Operand)->Prop->List V->Option (Prop × List V)
 | [],p,cs=>some (p,cs)
 | (i,x)::r,p,cs=>match fs[i]? with
  | none=>none
  | some (o,t)=>match st.arg G x with
   | (q,v)=>match v.cells,T t with
    | some xs,some ti=>qGI T st G fs r (p/\q/\xs.length=ti.size/\o+xs.length<=cs.length) (splice cs o xs)
    | _,_=>none
def qSK (T:Tab) (G:qT) (st:St) (op:Op) (orc:List PD):Option (Prop × V × List PD) :=
 match op with
 | .move x=>some (True,st.ev G x,orc)
 | .assign x=>some (True,st.ev G x,orc)
 | .pick c a b=>match st.arg G c,st.arg G a,st.arg G b with
  | (p,.p (.bool t)),(pa,.p da),(pb,.p db)=>some (p/\(t=true->pa)/\(t=false->pb),.p (PD.ite t da db),orc)
  | _,_,_=>none
 | .unOp u _ x=>match u,st.arg G x with
  | .not,(p,.p (.bool b))=>some (p,.p (.bool (!b)),orc)
  | .neg,(p,.p (.int k n))=>some (p,.p (.int k (k.wrap (0-n))),orc)
  | _,_=>none
 | .binOp o t x y _=>match st.arg G x,st.arg G y with
  | (p,.p a),(q,.p b)=>match oQ T o t a b with
   | some (v,d)=>some (p/\q/\v,.p d,orc)
   | none=>none
  | (p,.func (.func _) _ _),(q,.p .nilf)=>if wC T t=some .fn then(match qPO o false with
   | some (v,d)=>some (p/\q/\v,.p d,orc)
   | none=>none) else none
  | _,_=>none
 | .convert s d x=>match st.arg G x with
  | (p,.p a)=>match nZ T s d a with
   | some (v,r)=>some (p/\v,.p r,orc)
   | none=>none
  | _=>none
 | .extract x i=>match st.arg G x with
  | (p,.p (.tup ds))=>match ds[i]? with
   | some d=>some (p,.p d,orc)
   | none=>none
  | (p,.tuple vs)=>match vs[i]? with
   | some v=>some (p,v,orc)
   | none=>none
  | _=>none
 | .index t x i=>match wC T t,st.arg G x,st.arg G i,orc with
  | some .str,(p,.p (.str s)),(q,.p (.int _ n)),.int .u8 c::orc'=>some (p/\q/\0<=n/\(s[n.toNat]?).map (fun b=>(b.toNat:Int))=some c,.p (.int .u8 c),orc')
  | _,_,_,_=>none
 | .indexAddr t x i=>match wC T t,st.arg G x,st.arg G i with
  | some (.sl el),(p,.p (.sl sz es)),(q,.p (.int _ n))=>match orc with
   | e::orc'=>some (p/\q/\0<=n/\es[n.toNat]?=some e/\(T el).map (fun x=>x.size)=some sz,.cptr e.cells,orc')
   | []=>none
  | some (.sl el),(p,.ms id),(q,.p (.int _ n))=>match zS id st.H,T el with
   | some (.row _ sz es),some ti=>some (p/\q/\0<=n/\n.toNat<es.length/\ti.size=sz,.rptr id n.toNat sz 0,orc)
   | _,_=>none
  | _,_,_=>none
 | .fieldAddr t x f=>match T t,st.arg G x with
  | some ⟨.st fs,_,_,_,_⟩,(p,v)=>match fs[f]? with
   | none=>none
   | some (o,ft)=>match T ft with
    | none=>none
    | some ti=>match ti.size with
     | 0=>none
     | _+1=>match v with
      | .cptr cs=>some (p,.cptr (cs.drop o),orc)
      | .ptr id a=>some (p,.ptr id (a+o),orc)
      | .rptr id i sz a=>some (p,.rptr id i sz (a+o),orc)
      | _=>none
  | _,_=>none
 | .load t x=>match st.arg G x with
  | (p,v)=>match qWV T st t v orc with
   | some (q,y,orc')=>some (p/\q,y,orc')
   | none=>none
 | .nilCheck x=>match st.arg G x with
  | (p,.cptr cs)=>some (p,.cptr cs,orc)
  | (p,.ptr id a)=>some (p,.ptr id a,orc)
  | (p,.rptr id i sz a)=>some (p,.rptr id i sz a,orc)
  | _=>none
 | .slice t x lo hi none=>match st.arg G x,zFW st G lo,zFW st G hi with
  | (p,v),some (q,l),some (s,h)=>match qZB T t v l h with
   | some (c,y)=>some (p/\q/\s/\c,y,orc)
   | none=>none
  | _,_,_=>none
 | .call { callee := .builtin b,args,argTypes }=>match b,args.toList,argTypes.toList with
  | .len,[x],[t]=>match st.arg G x with
   | (p,v)=>match qLZ T st t v with
    | some d=>some (p,.p d,orc)
    | none=>none
  | .max,[x,y],_=>match st.arg G x,st.arg G y with
   | (p,.p (.int k a)),(q,.p (.int k' b))=>if k=k' then some (p/\q,.p (.int k (if b > a then b else a)),orc) else none
   | _,_=>none
  | .min,[x,y],_=>match st.arg G x,st.arg G y with
   | (p,.p (.int k a)),(q,.p (.int k' b))=>if k=k' then some (p/\q,.p (.int k (if b<a then b else a)),orc) else none
   | _,_=>none
  | _,_,_=>none
 | .makeFunc fn first cap=>match fn,first.toList,cap.toList with
  | .func f,[],[]=>some (True,.p (.fn f),orc)
  | fn,fs,cs=>some (True,.func fn (fs.map (st.ev G)) (cs.map (st.ev G)),orc)
 | .build t parts=>match T t with
  | some ⟨.st fs,_,_,z,_⟩=>match z.cells,fs.all (fun f=>(T f.2).isSome)with
   | some zs,true=>match qGI T st G fs parts.toList True zs with
    | some (p,cs)=>some (p,.agg cs,orc)
    | none=>none
   | _,_=>none
  | _=>none
 | _=>none
section
variable {P:Program} {T:Tab} {G:qT} {c:Ctx} {M:qY} {μ:Mu} {st:St} {tmps:Array Value} {w:World}
theorem jX (b o n:Nat):(⟨b,o,none⟩:Addr).add n=⟨b,o+n,none⟩:=by unfold Addr.add;split <;> simp_all
theorem xH {t:TypeId} {d:TypeDesc} {i:TypeInfo} (hd:P.underlying t=some d) (hi:P.info? t=some i) (b o:Nat) (f:Nat->Value) (w:World)
  (h:∀ j,j<(if(TK.of d).agg then i.size else 1)->w.cell? ⟨b,o+j,none⟩=some (f j)) :
  (Instr.loadAt t (.pointer (some ⟨b,o,none⟩))).run P w = .ok (if(TK.of d).agg then .agg ((List.range i.size).map f).toArray else f 0) w:=by
 have e1:(Instr.loadAt t (.pointer (some ⟨b,o,none⟩)))=loadVar t ⟨b,o,none⟩:=rfl;rw[e1];unfold loadVar;rw[Sem.run_bind,qIO hd,Result.andThen_ok];cases ha:(TK.of d).agg with
 | true =>
  rw[ha]at h;simp only[if_true]at h ⊢;have:=run_loadCells (P:=P) w ⟨b,o,none⟩ i.size f (fun j hj=>by rw[jX];exact h j hj);simp[sizeOf,typeInfo,hi,this]
 | false =>
  rw[ha]at h;have h0:=h 0 (by simp);simp only[cH]at h0;simp[h0]
theorem wK {α:Type} (f:Nat->α) (n i:Nat) (x:α) (h:((List.range n).map f)[i]?=some x):i<n/\x=f i:=by
 rw[bG]at h;obtain⟨j,hj,rfl⟩:=bF.1 h;rw[iD]at hj
 ·cases hj;refine⟨?_,rfl⟩;rcases Nat.lt_or_ge i n with h'|h'
  ·exact h'
  exfalso;simp[h']at h
 rcases Nat.lt_or_ge i n with h'|h'
 ·exact h'
 exfalso;simp[h']at h
theorem zEE (hT:TOK P T) (r:Rel c M μ st tmps w) {t:TypeId} {x y:V} {orc orc':List PD} {q:Prop} (h:qWV T st t x orc=some (q,y,orc')) (hq:q) {u:Value} (hu:RV M μ u x) :
  ∃ v,(Instr.loadAt t u).run P w = .ok v w/\RV M μ v y:=by
 unfold qWV at h;split at h
 ·cases h
 rename_i ti hti;obtain⟨i,d,hi,hd,hk,hsz,_⟩:=hT.get hti;split at h
 ·
  rename_i cs;cases hu with
  | @cptr b o _ h1 h2 =>
  split at h
  ·rename_i hag;simp only[Option.some.injEq,Prod.mk.injEq]at h;obtain⟨rfl,rfl,rfl⟩:=h;have hc:∀ j,j<ti.size->∃ u',M b (o+j)=some u'/\u'.oneCell'=true:=fun j hj=>by
    have hj':j<cs.length:=by omega
    exact h1 j cs[j] (by simp[hj'])
   refine⟨_,xH hd hi b o (fun j=>(M b (o+j)).getD undef) w (fun j hj => ?_), ?_⟩
   ·rw[hk,hag,hsz]at hj;obtain⟨u',hu',_⟩:=hc j (by simpa using hj);rw[r.mem _ _ _ hu'];simp[hu']
   rw[hk,hag,hsz];refine .p (.agg (by simp;omega) (fun j u' hu' => ?_) fun j u' d' hu' hd' => ?_)
   ·simp only[cN]at hu';obtain⟨hj,rfl⟩:=wK _ _ _ _ hu';obtain⟨u'',h3,h4⟩:=hc j hj;simp[h3,h4]
   simp only[cN]at hu';obtain⟨hj,rfl⟩:=wK _ _ _ _ hu';obtain⟨u'',h3,h4⟩:=hc j hj;rw[bW,bE hj]at hd';simp only[h3,dM];exact h2 j d' _ hd' h3
  rename_i hag;split at h
  ·rename_i d0 rest;simp only[Option.some.injEq,Prod.mk.injEq]at h;obtain⟨rfl,rfl,rfl⟩:=h;obtain⟨u',hu',_⟩:=h1 0 d0 rfl;simp only[cH]at hu';refine⟨_,xH hd hi b o (fun _=>u') w (fun j hj => ?_), ?_⟩
   ·rw[hk,hag]at hj;have:j=0:=by simpa using hj
    subst this;exact r.mem _ _ _ hu'
   rw[hk,hag];exact .p (h2 0 d0 u' rfl (by simpa using hu'))
  cases h
 ·
  rename_i id o;cases hu with
  | @ptr _ _ bk hbk =>
  split at h
  ·rename_i e cells hb;have hbx:=r.box id _ (zD hb);cases hbx with
   | @vars _ _ bk' arr h0 hh hs ho hc =>
   rw[hbk]at h0;cases h0;have hcell:∀ j,w.cell? ⟨bk,j,none⟩=arr[j]?:=fun j=>zQ hh;split at h
   ·rename_i hag;simp only[Option.some.injEq,Prod.mk.injEq]at h;obtain⟨rfl,rfl,rfl⟩:=h;refine⟨_,xH hd hi _ o (fun j=>(arr[o+j]?).getD undef) w (fun j hj => ?_), ?_⟩
    ·rw[hk,hag,hsz]at hj;have hlt:o+j<arr.size:=by simp only[if_true]at hj;omega
     rw[hcell];simp[hlt]
    rw[hk,hag,hsz];refine .agg (by simp;omega) (fun j u' hu' => ?_) fun j u' y' hu' hy' => ?_
    ·simp only[cN]at hu';obtain⟨hj,rfl⟩:=wK _ _ _ _ hu';have hlt:o+j<arr.size:=by omega
     simp only[hlt,getElem?_pos,dM];exact ho (o+j) _ (by simp[hlt])
    simp only[cN]at hu';obtain⟨hj,rfl⟩:=wK _ _ _ _ hu';have hlt:o+j<arr.size:=by omega
    simp only[hlt,getElem?_pos,dM];rw[bW,bE hj,bZ]at hy';exact hc (o+j) _ _ (by simp[hlt]) hy'
   rename_i hag;split at h
   ·rename_i y0 rest hdr;simp only[Option.some.injEq,Prod.mk.injEq]at h;obtain⟨rfl,rfl,rfl⟩:=h;have hy:cells[o]?=some y0:=by
     have:=congrArg (fun l=>l[0]?) hdr;simpa[bZ]using this
    have hlt:o<arr.size:=by rw[hs];exact(bB.1 hy).1
    refine⟨_,xH hd hi _ o (fun _=>arr[o]) w (fun j hj => ?_), ?_⟩
    ·rw[hk,hag]at hj;have:j=0:=by simpa using hj
     subst this;rw[hcell];simp[hlt]
    rw[hk,hag];exact hc o _ _ (by simp[hlt]) hy
   cases h
  cases h
 ·
  rename_i id j sz o;cases hu with
  | @rptr _ _ _ _ bk hbk =>
  split at h
  ·rename_i e sz' es hb;have hbx:=r.box id _ (zD hb);cases hbx with
   | rowN h0 hv=>rw[hbk]at h0;cases h0
   | @row _ _ _ bk' cap arr h0 hv hh hs hlc hm ho hz hc =>
   rw[hbk]at h0;cases h0;have hcell:∀ j,w.cell? ⟨bk,j,none⟩=arr[j]?:=fun j=>zQ hh;split at h
   ·rename_i e0 orc1;split at h
    ·rename_i hag;simp only[Option.some.injEq,Prod.mk.injEq]at h;obtain⟨rfl,rfl,rfl⟩:=h;obtain⟨rfl,he,hos⟩:=hq;have hjl:=(bB.1 he).1;have hfit:∀ k,k<sz->j * sz+k<arr.size:=fun k hk'=>by
      rw[hs];calc j * sz+k<j * sz+sz:=by omega
       _=(j+1) * sz:=by rw[dC,eI]
       _<=cap * sz:=cM _ (by omega)
     refine⟨_,xH hd hi _ (j * sz+o) (fun k=>(arr[j * sz+o+k]?).getD undef) w (fun k hk' => ?_), ?_⟩
     ·rw[hk,hag,hsz]at hk';have hlt:j * sz+o+k<arr.size:=by simp only[if_true]at hk';have:=hfit (o+k) (by omega);omega
      rw[hcell];simp[hlt]
     rw[hk,hag,hsz];have hzz:=hz j e0 he;refine .p (.agg (by simp;omega) (fun k u' hu' => ?_) fun k u' d' hu' hd' => ?_)
     ·simp only[cN]at hu';obtain⟨hk',rfl⟩:=wK _ _ _ _ hu';have hlt:j * sz+o+k<arr.size:=by have:=hfit (o+k) (by omega);omega
      simp only[hlt,getElem?_pos,dM];exact ho (j * sz+o+k) _ (by simp[hlt])
     simp only[cN]at hu';obtain⟨hk',rfl⟩:=wK _ _ _ _ hu';have hlt:j * sz+o+k<arr.size:=by have:=hfit (o+k) (by omega);omega
     simp only[hlt,getElem?_pos,dM];rw[bW,bE hk',bZ]at hd';exact hc j e0 (o+k) _ _ he hd' (by rw[<-Nat.add_assoc];simp[hlt])
    rename_i hag;split at h
    ·rename_i d0 rest hdr;simp only[Option.some.injEq,Prod.mk.injEq]at h;obtain⟨rfl,rfl,rfl⟩:=h;obtain⟨rfl,he⟩:=hq;have hy:e0.cells[o]?=some d0:=by
      have:=congrArg (fun l=>l[0]?) hdr;simpa[bZ]using this
     have hjl:=(bB.1 he).1;have hol:o<sz:=by rw[<-hz j e0 he];exact(bB.1 hy).1
     have hlt:j * sz+o<arr.size:=by
      rw[hs];calc j * sz+o<j * sz+sz:=by omega
       _=(j+1) * sz:=by rw[dC,eI]
       _<=cap * sz:=cM _ (by omega)
     refine⟨_,xH hd hi _ (j * sz+o) (fun _=>arr[j * sz+o]) w (fun k hk' => ?_), ?_⟩
     ·rw[hk,hag]at hk';have:k=0:=by simpa using hk'
      subst this;rw[hcell];simp[hlt]
     rw[hk,hag];exact .p (hc j e0 o _ _ he hy (by simp[hlt]))
    cases h
   cases h
  cases h
 cases h
end
section
variable {P:Program} {T:Tab} {G:qT} {c:Ctx} {M:qY} {μ:Mu} {st:St} {tmps:Array Value} {w:World}
theorem zUM (hT:TOK P T) {s d:TypeId} {a r:PD} {v:Prop} (h:nZ T s d a=some (v,r)) {u:Value} (hu:Rd M u a) (w:World) :
  ∃ y,(convert s d u).run P w = .ok y w/\Rd M y r:=by
 unfold nZ at h;split at h
 ·rename_i k k' k0 n hs hd;have hsd:=hT.int hs;have hdd:=hT.int hd;split at h
  ·rename_i hk;subst hk;cases hu with
   | int h1 h2 =>
   rw[xC]at h1;rw[jI]at h2;have e:(convert s d (.int k n)).run P w = .ok (.int k' (k'.wrap n)) w:=by
    simp[convert,run_underlying hsd,run_underlying hdd,Conv.intToInt]
   split at h
   ·rename_i hw;cases h;have:=zKA k' n (by omega) (by omega);exact⟨_,e,by rw[this];exact lA (by omega) (by omega)⟩
   cases h;exact⟨_,e,Rd.wrap M k' n⟩
  cases h
 ·rename_i b hs hd;cases h;have hsd:=hT.str hs;have hdd:=hT.str hd;cases hu with
  | str h1 h2 =>
  exact⟨_,by simp[convert,run_underlying hsd,run_underlying hdd],.str h1 h2⟩
 cases h
theorem qYB (hg:qAD G c) (r:Rel c M μ st tmps w) {x:Option Operand} {p:Prop} {n:Option Int} (h:zFW st G x=some (p,n)) (hp:p) :
  (n=none/\x=none)\/∃ k i,n=some i/\x.map (Act.eval ⟨tmps,[]⟩)=some (.int k i):=by
 unfold zFW at h;split at h
 ·cases h;exact .inl ⟨rfl,rfl⟩
 rename_i x;split at h
 ·rename_i q k i he;cases h;have h1:=(qF hg r he hp).p_inv;generalize hu:Act.eval ⟨tmps,[]⟩ x=u at h1;cases h1;exact .inr ⟨k,i,rfl,by simp[hu]⟩
 cases h
theorem yS {isSlice:Bool} {len cap:Nat} {lo hi:Option Value} {l h:Int} (hlo:(lo=none/\l=0)\/∃ k,lo=some (.int k l)) (hhi:(hi=none/\h=len)\/∃ k,hi=some (.int k h))
  (h0:0<=l) (h1:l<=h) (h2:h<=cap) (w:World):(Instr.sliceBounds isSlice len cap lo hi none).run P w = .ok (l.toNat,h.toNat,cap) w:=by
 have b1:∀ (k:IntKind) (code:BoundsCode),(Instr.sliceBound (.int k h) cap code).run P w = .ok h.toNat w:=fun k code=>run_sliceBound (P:=P) w k h cap code (by omega) (by omega);have b2:∀ (k:IntKind) (code:BoundsCode),(Instr.sliceBound (.int k l) h.toNat code).run P w = .ok l.toNat w:=fun k code=>run_sliceBound (P:=P) w k l h.toNat code (by omega) (by omega);rcases hhi with⟨rfl,rfl⟩|⟨k,rfl⟩ <;> rcases hlo with⟨rfl,rfl⟩|⟨k',rfl⟩ <;> simp[Instr.sliceBounds,b1] <;> (first|(simp at b2;simp[b2])|simp[b2])
theorem zNN (hT:TOK P T) {t:TypeId} {x y:V} {lo hi:Option Int} {q:Prop} (h:qZB T t x lo hi=some (q,y)) (hq:q) {u:Value} (hu:RV M μ u x)
  {vl vh:Option Value} (hl:(lo=none/\vl=none)\/∃ k i,lo=some i/\vl=some (.int k i)) (hh:(hi=none/\vh=none)\/∃ k i,hi=some i/\vh=some (.int k i)) (w:World) :
  ∃ v,(Instr.sliceAt t u vl vh none).run P w = .ok v w/\RV M μ v y:=by
 unfold qZB at h;have hlo:(vl=none/\lo.getD 0=0)\/∃ k,vl=some (.int k (lo.getD 0)):=by
  rcases hl with⟨rfl,rfl⟩|⟨k,i,rfl,rfl⟩
  ·exact .inl ⟨rfl,rfl⟩
  exact .inr ⟨k,rfl⟩
 have hhi:∀ n:Nat,(vh=none/\hi.getD (n:Int)=n)\/∃ k,vh=some (.int k (hi.getD (n:Int))):=by
  intro n;rcases hh with⟨rfl,rfl⟩|⟨k,i,rfl,rfl⟩
  ·exact .inl ⟨rfl,rfl⟩
  exact .inr ⟨k,rfl⟩
 split at h
 ·rename_i s hk;simp only[Option.some.injEq,Prod.mk.injEq]at h;obtain⟨rfl,rfl⟩:=h;obtain⟨q0,q1,q2⟩:=hq;have hd:=hT.str hk;cases hu with
  | p hu =>
  cases hu with
  | @str b _ hs hm =>
  have hz:=vB hs;have hb:=yS (P:=P) (isSlice:=false) (cap:=b.size) hlo (by rw[<-hz]at *; exact hhi b.size) q0 (by rw[hz];exact q1) (by rw[hz];exact q2) w;refine⟨.string (b.extract (lo.getD 0).toNat (hi.getD (b.size:Int)).toNat), ?_,.p (.str ?_ ?_)⟩
  ·simp[Instr.sliceAt,Instr.slice,run_underlying hd,hb]
  ·rw[hz];simp only[ByteArray.data_extract,Array.toList_extract];rw[List.extract_eq_take_drop,List.drop_take,hs]
  simp only[bQ,cK];omega
 ·rename_i el sz es hk;simp only[Option.some.injEq,Prod.mk.injEq]at h;obtain⟨rfl,rfl⟩:=h;obtain⟨qs,q0,q1,q2⟩:=hq;have hd:=hT.sl hk;obtain⟨ti,hti,rfl⟩:=bF.1 qs;obtain⟨i,de,hi',_,_,hsz,_⟩:=hT.get hti;cases hu with
  | p hu =>
  cases hu with
  | @sl a n cp _ _ b o hn hnc hcm ha hz hex hrd =>
  subst hn;have hb:=yS (P:=P) (isSlice:=true) (len:=es.length) (cap:=cp) hlo (hhi es.length) q0 q1 (by omega) w;have hso:(sizeOf el).run P w = .ok ti.size w:=by simp[sizeOf,typeInfo,hi',hsz]
  refine⟨.slice (if cp=(lo.getD 0).toNat then a else a.map (·.add ((lo.getD 0).toNat * ti.size))) ((hi.getD (es.length:Int)).toNat-(lo.getD 0).toNat) (cp-(lo.getD 0).toNat), ?_,.p ?_⟩
  ·simp[Instr.sliceAt,Instr.slice,run_underlying hd,hb,hso]
  generalize (lo.getD 0)=l at *;generalize (hi.getD (es.length:Int))=h at *;obtain⟨l,rfl⟩:=Int.eq_ofNat_of_zero_le q0;obtain⟨h,rfl⟩:=Int.eq_ofNat_of_zero_le (show 0<=h by omega);simp only[Int.toNat_natCast];have hget:∀ (j:Nat) e,((es.take h).drop l)[j]?=some e->es[l+j]?=some e/\l+j<h:=fun j e he=>by
   rw[bZ,bW]at he;split at he
   ·exact⟨he,by assumption⟩
   cases he
  refine .sl b (o+l * ti.size) (by simp;omega) (by omega) (by omega) (fun hne => ?_) (fun j e he=>hz _ e (hget j e he).1) (fun j e k he hk' => ?_) (fun j e k d u he hd' hu' => ?_)
  ·have hln:cp≠l:=by omega
   rw[bD hln,ha (by omega)];simp[jX]
  ·obtain⟨h1,h2⟩:=hget j e he;obtain⟨u,hu,hc⟩:=hex (l+j) e k h1 hk';exact⟨u,by rw[<-hu];congr 1;rw[dC];omega,hc⟩
  obtain⟨h1,h2⟩:=hget j e he;exact hrd (l+j) e k d u h1 hd' (by rw[<-hu'];congr 1;rw[dC];omega)
 cases h
theorem zYH (hT:TOK P T) (r:Rel c M μ st tmps w) {t:TypeId} {x:V} {d:PD} (h:qLZ T st t x=some d) {u:Value} (hu:RV M μ u x) (ty:TypeId) :
  ∃ v,(Builtin.len_ #[t] ty #[u]).run P w = .ok v w/\Rd M v d:=by
 unfold qLZ at h;split at h
 ·rename_i s hk;cases h;have hd:=hT.str hk;cases hu with
  | p hu =>
  cases hu with
  | str hs hm =>
  refine⟨.int .i64 s.length,by simp[Builtin.len_,run_underlying hd,goInt,vB hs],lA ?_ ?_⟩ <;> simp[kS,kT,maxLen]at * <;> omega
 ·rename_i sz es hk;cases h;have hd:=hT.sl hk;cases hu with
  | p hu =>
  cases hu with
  | sl b o hn hnc hcm =>
  subst hn;refine⟨.int .i64 es.length,by simp[Builtin.len_,run_underlying hd,goInt],lA ?_ ?_⟩ <;> simp[kS,kT,maxLen]at * <;> omega
 ·rename_i hk;cases h;have hd:=hT.sl hk;cases hu;exact⟨.int .i64 0,by simp[Builtin.len_,run_underlying hd,goInt],lA (by simp[kS]) (by simp[kT])⟩
 ·rename_i id hk;have hd:=hT.sl hk;split at h
  ·rename_i e sz es hb;cases h;have hbx:=r.box id _ (zD hb);cases hu with
   | ms hu _ =>
   cases hbx with
   | row h0 hv hh hs hlc hm =>
    rw[hv]at hu;subst hu;refine⟨.int .i64 es.length,by simp[Builtin.len_,run_underlying hd,goInt],lA ?_ ?_⟩ <;> simp[kS,kT,maxLen]at * <;> omega
   | rowN h0 hv =>
    rw[hv]at hu;subst hu;exact⟨.int .i64 0,by simp[Builtin.len_,run_underlying hd,goInt],lA (by simp[kS]) (by simp[kT])⟩
  cases h
 cases h
theorem oW {st:St} (hg:qAD G c) (r:Rel c M μ st tmps w) (arr:Array Operand) :
  (arr.map (Act.eval ⟨tmps,[]⟩)).size=(arr.toList.map (st.ev G)).length/\∀ (i:Nat) u x,(arr.map (Act.eval ⟨tmps,[]⟩))[i]?=some u->(arr.toList.map (st.ev G))[i]?=some x->RV M μ u x:=by
 refine⟨by simp,fun i u x hu hx => ?_⟩;rw[fQ]at hu;rw[bG]at hx;obtain⟨y,hy,rfl⟩:=bF.1 hu;simp only[eJ,hy,eV,Option.some.injEq]at hx;subst hx;exact qEZ hg r y
theorem zFS {u:Value} {x:V} {xs:List V} (hu:RV M μ u x) (h:x.cells=some xs) :
  u.cells.size=xs.length/\(∀ (i:Nat) v,u.cells[i]?=some v->v.oneCell'=true)/\(∀ (i:Nat) v y,u.cells[i]?=some v->xs[i]?=some y->RV M μ v y):=by
 have one:∀ (u:Value) (x:V),RV M μ u x->u.oneCell'=true->(u.cells.size=[x].length/\(∀ (i:Nat) v,u.cells[i]?=some v->v.oneCell'=true)/\(∀ (i:Nat) v y,u.cells[i]?=some v->[x][i]?=some y->RV M μ v y)):=by
  intro u x hu h1;have e:u.cells = #[u]:=by cases u <;> simp_all[Value.cells,Value.oneCell']
  rw[e];refine⟨rfl,fun i v hv => ?_,fun i v y hv hy => ?_⟩
  ·match i with
   | 0=>simp at hv;subst hv;exact h1
   | i+1=>simp at hv
  match i with
  | 0=>simp at hv hy;subst hv;subst hy;exact hu
  | i+1=>simp at hv
 cases hu with
 | p hd =>
  cases hd with
  | @agg arr cs h1 h2 h3 =>
   simp only[V.cells,Option.some.injEq]at h;subst h;refine⟨by simp[Value.cells,h1],h2,fun i v y hv hy => ?_⟩;rw[bG]at hy;obtain⟨d,hd,rfl⟩:=bF.1 hy;exact .p (h3 i v d hv hd)
  | tup _ _=>simp[V.cells]at h
  | bool b=>simp only[V.cells,Option.some.injEq]at h;subst h;exact one _ _ (.p (.bool b)) rfl
  | int h1 h2=>simp only[V.cells,Option.some.injEq]at h;subst h;exact one _ _ (.p (.int h1 h2)) rfl
  | str h1 h2=>simp only[V.cells,Option.some.injEq]at h;subst h;exact one _ _ (.p (.str h1 h2)) rfl
  | sl b o h1 h2 h3 h4 h5 h6 h7=>simp only[V.cells,Option.some.injEq]at h;subst h;exact one _ _ (.p (.sl b o h1 h2 h3 h4 h5 h6 h7)) rfl
  | fn f=>simp only[V.cells,Option.some.injEq]at h;subst h;exact one _ _ (.p (.fn f)) rfl
  | clo h1 h2=>simp only[V.cells,Option.some.injEq]at h;subst h;exact one _ _ (.p (.clo h1 h2)) rfl
  | ref h1 h2=>simp only[V.cells,Option.some.injEq]at h;subst h;exact one _ _ (.p (.ref h1 h2)) rfl
  | nilp=>simp only[V.cells,Option.some.injEq]at h;subst h;exact one _ _ (.p .nilp) rfl
  | nilf=>simp only[V.cells,Option.some.injEq]at h;subst h;exact one _ _ (.p .nilf) rfl
  | noerr=>simp only[V.cells,Option.some.injEq]at h;subst h;exact one _ _ (.p .noerr) rfl
  | err=>simp only[V.cells,Option.some.injEq]at h;subst h;exact one _ _ (.p .err) rfl
 | dead=>simp[V.cells]at h
 | nilsl=>simp only[V.cells,Option.some.injEq]at h;subst h;exact one _ _ .nilsl rfl
 | ptr hb=>simp only[V.cells,Option.some.injEq]at h;subst h;exact one _ _ (.ptr hb) rfl
 | rptr hb=>simp only[V.cells,Option.some.injEq]at h;subst h;exact one _ _ (.rptr hb) rfl
 | tl h1 h2 h3=>simp only[V.cells,Option.some.injEq]at h;subst h;exact one _ _ (.tl h1 h2 h3) rfl
 | cptr h1 h2=>simp only[V.cells,Option.some.injEq]at h;subst h;exact one _ _ (.cptr h1 h2) rfl
 | ms hb h1=>simp only[V.cells,Option.some.injEq]at h;subst h;exact one _ _ (.ms hb h1) h1
 | it hb=>simp only[V.cells,Option.some.injEq]at h;subst h;exact one _ _ (.it hb) rfl
 | func h1 h2 h3 h4=>simp only[V.cells,Option.some.injEq]at h;subst h;exact one _ _ (.func h1 h2 h3 h4) rfl
 | agg h1 h2 h3 =>
  simp only[V.cells,Option.some.injEq]at h;subst h;exact⟨by simpa[Value.cells]using h1,h2,h3⟩
 | tuple _ _=>simp[V.cells]at h
 | when _ _=>simp[V.cells]at h
end
theorem qQP (off:Nat):∀ (l:List Value) (s:Nat) (arr:Array Value),
  ((l.zipIdx s).foldl (fun cs (x:Value × Nat)=>cs.setIfInBounds (off+x.2) x.1) arr).size=arr.size /\
   ∀ k,((l.zipIdx s).foldl (fun cs (x:Value × Nat)=>cs.setIfInBounds (off+x.2) x.1) arr)[k]?=if off+s<=k/\k<off+s+l.length/\k<arr.size then l[k-(off+s)]? else arr[k]?
 | [],s,arr=>by
  refine⟨rfl,fun k => ?_⟩;rw[bD (by simp;omega)];rfl
 | v::l,s,arr=>by
  obtain⟨h1,h2⟩:=qQP off l (s+1) (arr.setIfInBounds (off+s) v);refine⟨by simpa using h1,fun k => ?_⟩;simp only[List.zipIdx_cons,fH];rw[h2 k];simp only[Array.size_setIfInBounds,cA];by_cases hk:k=off+s
  ·subst hk;rw[bD (by omega),Array.getElem?_setIfInBounds_self];by_cases hlt:off+s<arr.size
   ·rw[bE hlt,bE ⟨by omega,by omega,hlt⟩];simp
   rw[bD hlt,bD (by omega)];simp[Array.getElem?_eq_none (fO hlt)]
  rw[gC (by omega)];by_cases hc:off+(s+1)<=k/\k<off+(s+1)+l.length/\k<arr.size
  ·rw[bE hc,bE ⟨by omega,by omega,hc.2.2⟩];rw[show k-(off+s)=(k-(off+(s+1)))+1 from by omega];simp
  rw[bD hc,bD (by omega)]
structure Cells (M:qY) (μ:Mu) (arr:Array Value) (cs:List V):Prop where
 size:arr.size=cs.length
 one:∀ (i:Nat) u,arr[i]?=some u->u.oneCell'=true
 get:∀ (i:Nat) u x,arr[i]?=some u->cs[i]?=some x->RV M μ u x
theorem qAU (l xs:List V) (o k:Nat) (h:o+xs.length<=l.length):(splice l o xs)[k]?=if o<=k/\k<o+xs.length then xs[k-o]? else l[k]?:=by
 unfold splice;have hto:(l.take o).length=o:=by simp;omega
 rw[cD,cF,hto];by_cases h1:k<o
 ·rw[bE h1,bD (by omega),bW,bE h1]
 rw[bD h1,cF];by_cases h2:k-o<xs.length
 ·rw[bE h2,bE ⟨by omega,by omega⟩]
 rw[bD h2,bD (by omega),bZ];congr 1;omega
theorem Cells.splice {M:qY} {μ:Mu} {arr:Array Value} {cs:List V} (h:Cells M μ arr cs) {us:Array Value} {xs:List V} (hu:Cells M μ us xs) {o:Nat} (ho:o+xs.length<=cs.length) :
  Cells M μ (us.zipIdx.foldl (fun(cs:Array Value) (x:Value × Nat)=>match x with|(c,j)=>cs.setIfInBounds (o+j) c) arr) (Sy.splice cs o xs):=by
 have e:(us.zipIdx.foldl (fun(cs:Array Value) (x:Value × Nat)=>match x with|(c,j)=>cs.setIfInBounds (o+j) c) arr) =
   ((us.toList.zipIdx 0).foldl (fun cs (x:Value × Nat)=>cs.setIfInBounds (o+x.2) x.1) arr):=by
  rw[<-Array.foldl_toList];simp
 rw[e];obtain⟨h1,h2⟩:=qQP o us.toList 0 arr;have hsz:=h.size;have hus:=hu.size;refine⟨?_,fun i u hi => ?_,fun i u x hi hx => ?_⟩
 ·rw[h1,hsz];simp[Sy.splice];omega
 ·rw[h2 i]at hi;split at hi
  ·exact hu.one _ u (by simpa using hi)
  exact h.one i u hi
 rw[h2 i]at hi;rw[qAU cs xs o i ho]at hx;simp only[cH,dY,hus,hsz]at hi;split at hi
 ·rename_i hc;rw[bE ⟨hc.1,hc.2.1⟩]at hx;exact hu.get _ u x (by simpa using hi) hx
 rename_i hc;by_cases hc2:o<=i/\i<o+xs.length
 ·omega
 rw[bD hc2]at hx;exact h.get i u x hi hx
section
variable {P:Program} {T:Tab} {G:qT} {c:Ctx} {M:qY} {μ:Mu} {st:St} {tmps:Array Value} {w:World}
theorem Cells.of {u:Value} {x:V} {xs:List V} (hu:RV M μ u x) (h:x.cells=some xs):Cells M μ u.cells xs :=
 let ⟨h1,h2,h3⟩:=zFS hu h; ⟨h1,h2,h3⟩
theorem qYA (hT:TOK P T) (hg:qAD G c) (r:Rel c M μ st tmps w) {fs:List (Nat × TypeId)} {places:Array (Nat × Nat)}
  (hp:∀ (i o:Nat) t ti,fs[i]?=some (o,t)->T t=some ti->places[i]?=some (o,ti.size)) :
  ∀ (parts:List (Nat × Operand)) (p:Prop) (cs:List V) (arr:Array Value) (q:Prop) (cs':List V),Cells M μ arr cs->qGI T st G fs parts p cs=some (q,cs')->q ->
   p/\∃ arr',Instr.fill (places[·]?) arr (parts.map fun x=>(x.1,Act.eval ⟨tmps,[]⟩ x.2))=some arr'/\Cells M μ arr' cs'
 | [],p,cs,arr,q,cs',hc,h,hq=>by
  simp only[qGI,Option.some.injEq,Prod.mk.injEq]at h;obtain⟨rfl,rfl⟩:=h;exact⟨hq,arr,rfl,hc⟩
 | (i,x)::rest,p,cs,arr,q,cs',hc,h,hq=>by
  simp only[qGI]at h;split at h
  ·cases h
  rename_i o t hf;have harg:st.arg G x=((st.arg G x).1,(st.arg G x).2):=rfl;generalize (st.arg G x).1=pq at *;generalize (st.arg G x).2=v at *;split at h
  ·rename_i xs ti hxs hti;have key:∀ (arr2:Array Value),Cells M μ arr2 (Sy.splice cs o xs)->(p/\pq/\xs.length=ti.size/\o+xs.length<=cs.length) /\
     ∃ arr',Instr.fill (places[·]?) arr2 (rest.map fun x=>(x.1,Act.eval ⟨tmps,[]⟩ x.2))=some arr'/\Cells M μ arr' cs':=fun arr2 h2=>qYA hT hg r hp rest _ _ arr2 q cs' h2 h hq
   have hcond:p/\pq/\xs.length=ti.size/\o+xs.length<=cs.length:=by
    have:∀ (rest:List (Nat × Operand)) (p:Prop) (cs:List V),qGI T st G fs rest p cs=some (q,cs')->p:=by
     intro rest;induction rest with
     | nil=>intro p cs h;simp only[qGI,Option.some.injEq,Prod.mk.injEq]at h;obtain⟨rfl,_⟩:=h;exact hq
     | cons y ys ih =>
      obtain⟨i,x⟩:=y;intro p cs h;simp only[qGI]at h;split at h
      ·cases h
      split at h
      ·exact(ih _ _ h).1
      cases h
    exact this _ _ _ h
   have hv:=qF hg r harg hcond.2.1;have hcu:=Cells.of hv hxs;have h2:=key _ (hc.splice hcu hcond.2.2.2);refine⟨hcond.1, ?_⟩;obtain⟨_,arr',h3,h4⟩:=h2;refine⟨arr', ?_,h4⟩;simp only[bA,Instr.fill];rw[hp i o t ti hf hti];simp only;have e1:(Act.eval ⟨tmps,[]⟩ x).cells.size=ti.size:=by rw[hcu.size,hcond.2.2.1]
   rw[bD (by simp[e1];rw[hc.size,<-hcond.2.2.1];exact hcond.2.2.2)];exact h3
  cases h
theorem qIF {α:Type} {arr:Array α} {l:List α} (h:arr.toList=l):arr=l.toArray:=by subst h;simp
theorem qWG (hT:TOK P T):∀ (l:List Field),(l.map (fun f=>(f.offset,f.type))).all (fun f=>(T f.2).isSome)=true ->
  ∃ places,l.mapM (fun f=>(P.info? f.type).map fun i=>(f.offset,i.size))=some places /\
   ∀ (i o:Nat) t ti,(l.map fun f=>(f.offset,f.type))[i]?=some (o,t)->T t=some ti->places[i]?=some (o,ti.size)
 | [],_=>⟨[],by simp,fun i o t ti h=>by simp at h⟩
 | f::l,h=>by
  simp only[bA,eF,bI]at h;obtain⟨pl,h1,h2⟩:=qWG hT l h.2;obtain⟨ti,hti⟩:=Option.isSome_iff_exists.1 h.1;obtain⟨i,d,hi,_,_,hsz,_⟩:=hT.get hti;refine⟨(f.offset,ti.size)::pl, ?_,fun j o t ti' hj ht => ?_⟩
  ·simp[List.mapM_cons,hi,h1,hsz]
  cases j with
  | zero =>
   simp only[bA,List.getElem?_cons_zero,Option.some.injEq,Prod.mk.injEq]at hj;obtain⟨rfl,rfl⟩:=hj;rw[hti]at ht;cases ht;simp
  | succ j=>simpa using h2 j o t ti' (by simpa using hj) ht
theorem qOZ (hT:TOK P T) (hg:qAD G c) (r:Rel c M μ st tmps w) {o:Oper} {orc orc':List PD} {v:Prop} {x:V} (h:qSK T G st o.op orc=some (v,x,orc')) (hv:v) :
  ∃ u,(execOp (Act.eval ⟨tmps,[]⟩) o).run P w = .ok (.value u) w/\RV M μ u x:=by
 obtain⟨dst,op,ty,pos,after,guard⟩:=o;simp only at h;unfold qSK at h;split at h
 ·cases h;exact⟨_,rfl,qEZ hg r _⟩
 ·cases h;exact⟨_,rfl,qEZ hg r _⟩
 ·rename_i cc a b;split at h
  ·rename_i p t pa da pb db h1 h2 h3;simp only[Option.some.injEq,Prod.mk.injEq]at h;obtain⟨rfl,rfl,rfl⟩:=h;obtain⟨hp,hpa,hpb⟩:=hv;have e1:=(qF hg r h1 hp).p_inv;generalize hu1:Act.eval ⟨tmps,[]⟩ cc=u1 at e1;cases e1;cases t with
   | true =>
    refine⟨Act.eval ⟨tmps,[]⟩ a,by simp[execOp,hu1,asBool],.p (Rd.ite (fun _=>(qF hg r h2 (hpa rfl)).p_inv) (fun e=>by cases e))⟩
   | false =>
    refine⟨Act.eval ⟨tmps,[]⟩ b,by simp[execOp,hu1,asBool],.p (Rd.ite (fun e=>by cases e) (fun _=>(qF hg r h3 (hpb rfl)).p_inv))⟩
  cases h
 ·rename_i u t y;split at h
  ·rename_i p b h1;simp only[Option.some.injEq,Prod.mk.injEq]at h;obtain⟨rfl,rfl,rfl⟩:=h;have e1:=(qF hg r h1 hv).p_inv;generalize hu1:Act.eval ⟨tmps,[]⟩ y=u1 at e1;cases e1;exact⟨_,by simp[execOp,hu1,Op.unary],.p (.bool _)⟩
  ·rename_i p k n h1;simp only[Option.some.injEq,Prod.mk.injEq]at h;obtain⟨rfl,rfl,rfl⟩:=h;have e1:=(qF hg r h1 hv).p_inv;generalize hu1:Act.eval ⟨tmps,[]⟩ y=u1 at e1;cases e1;exact⟨_,by simp only[execOp,hu1,Op.unary,Op.intArith];rfl,.p (Rd.wrap M k _)⟩
  cases h
 ·rename_i bo t a b ty2;split at h
  ·rename_i p da q db h1 h2;split at h
   ·rename_i vv d hb;simp only[Option.some.injEq,Prod.mk.injEq]at h;obtain⟨rfl,rfl,rfl⟩:=h;obtain⟨hp,hq,hvv⟩:=hv;obtain⟨y,e,hy⟩:=zZH hT hb hvv (qF hg r h1 hp).p_inv (qF hg r h2 hq).p_inv a b w;refine⟨y, ?_,.p hy⟩;simp only[execOp];rw[Sem.run_bind,e];rfl
   cases h
  ·rename_i p g1 g2 g3 q h1 h2;split at h
   ·rename_i hk;split at h
    ·rename_i vv d hb;simp only[Option.some.injEq,Prod.mk.injEq]at h;obtain⟨rfl,rfl,rfl⟩:=h;obtain⟨hp,hq,hvv⟩:=hv;have e1:=qF hg r h1 hp;have e2:=(qF hg r h2 hq).p_inv;generalize hu1:Act.eval ⟨tmps,[]⟩ a=u1 at e1;generalize hu2:Act.eval ⟨tmps,[]⟩ b=u2 at e2;cases e1;cases e2;obtain⟨y,e,hy⟩:=zIM (M:=M) hT hk (.inr ⟨rfl,_,_,_,rfl⟩) hb a b w;refine⟨y, ?_,.p hy⟩;simp only[execOp,hu1,hu2];rw[Sem.run_bind,e];rfl
    cases h
   cases h
  cases h
 ·rename_i s d a;split at h
  ·rename_i p da h1;split at h
   ·rename_i vv rr hc;simp only[Option.some.injEq,Prod.mk.injEq]at h;obtain⟨rfl,rfl,rfl⟩:=h;obtain⟨y,e,hy⟩:=zUM hT hc (qF hg r h1 hv.1).p_inv w;exact⟨y,by simp[execOp,e],.p hy⟩
   cases h
  cases h
 ·rename_i a i;split at h
  ·rename_i p ds h1;split at h
   ·rename_i d hd;simp only[Option.some.injEq,Prod.mk.injEq]at h;obtain⟨rfl,rfl,rfl⟩:=h;have e1:=(qF hg r h1 hv).p_inv;generalize hu1:Act.eval ⟨tmps,[]⟩ a=u1 at e1;cases e1 with
    | @tup arr _ hs hr =>
    have hi:i<arr.size:=by rw[hs];exact(bB.1 hd).1
    exact⟨arr[i],by simp[execOp,hu1,Instr.extract,hi],.p (hr i _ _ (by simp[hi]) hd)⟩
   cases h
  ·rename_i p vs h1;split at h
   ·rename_i y hd;simp only[Option.some.injEq,Prod.mk.injEq]at h;obtain⟨rfl,rfl,rfl⟩:=h;have e1:=qF hg r h1 hv;generalize hu1:Act.eval ⟨tmps,[]⟩ a=u1 at e1;cases e1 with
    | @tuple arr _ hs hr =>
    have hi:i<arr.size:=by rw[hs];exact(bB.1 hd).1
    exact⟨arr[i],by simp[execOp,hu1,Instr.extract,hi],hr i _ _ (by simp[hi]) hd⟩
   cases h
  cases h
 ·rename_i t a i;split at h
  ·rename_i p s q k n cc orc2 hk h1 h2;simp only[Option.some.injEq,Prod.mk.injEq]at h;obtain⟨rfl,rfl,rfl⟩:=h;obtain⟨hp,hq,hn,hc⟩:=hv;have hd:=hT.str hk;have e1:=(qF hg r h1 hp).p_inv;have e2:=(qF hg r h2 hq).p_inv;generalize hu1:Act.eval ⟨tmps,[]⟩ a=u1 at e1;generalize hu2:Act.eval ⟨tmps,[]⟩ i=u2 at e2;cases e1 with
   | @str ba _ hs hm =>
   cases e2;obtain⟨bb,hbb,rfl⟩:=bF.1 hc;have hlt:n.toNat<ba.size:=by rw[vB hs];exact(bB.1 hbb).1
   have hget:ba[n.toNat]?=some bb:=by
    have:ba.data.toList[n.toNat]?=some bb:=by rw[hs];exact hbb
    rw[eJ]at this;have e:ba[n.toNat]?=some ba[n.toNat]:=by simp[hlt]
    rw[e];have hlt':n.toNat<ba.data.size:=hlt;rw[Array.getElem?_eq_getElem hlt']at this;exact this
   refine⟨.int .u8 bb.toNat, ?_,.p (lA ?_ ?_)⟩
   ·simp[execOp,hu1,hu2,Instr.index,asIntOf,run_underlying hd,hn,hget]
   ·simp[kS]
   have:=bb.toNat_lt;simp only[kT];omega
  cases h
 ·rename_i t a i;split at h
  ·rename_i el p sz es q k n hk h1 h2;split at h
   ·rename_i e orc2;simp only[Option.some.injEq,Prod.mk.injEq]at h;obtain⟨rfl,rfl,rfl⟩:=h;obtain⟨hp,hq,hn,he,hsz⟩:=hv;have hd:=hT.sl hk;obtain⟨ti,hti,rfl⟩:=bF.1 hsz;obtain⟨ie,de,hi',_,_,hsz',_⟩:=hT.get hti;have e1:=(qF hg r h1 hp).p_inv;have e2:=(qF hg r h2 hq).p_inv;generalize hu1:Act.eval ⟨tmps,[]⟩ a=u1 at e1;generalize hu2:Act.eval ⟨tmps,[]⟩ i=u2 at e2;cases e1 with
    | @sl ad nn cp _ _ b off hn' hnc hcm ha hz hex hrd =>
    cases e2;have hlt:=(bB.1 he).1;have had:=ha (by omega);subst had;have hso:(sizeOf el).run P w = .ok ti.size w:=by simp[sizeOf,typeInfo,hi',hsz']
    have hlen:e.cells.length=ti.size:=hz _ e he;refine⟨.pointer (some ⟨b,off+n.toNat * ti.size,none⟩), ?_,.cptr (fun j d hd' => ?_) (fun j d u hd' hu' => ?_)⟩
    ·have hb:n<nn:=by omega
     simp[execOp,hu1,hu2,Instr.indexAt,asIntOf,run_underlying hd,hn,hb,hso,jX]
    ·obtain⟨u,hu,hone⟩:=hex n.toNat e j he (by rw[<-hlen];exact(bB.1 hd').1);exact⟨u,hu,hone⟩
    exact hrd n.toNat e j d u he hd' hu'
   cases h
  ·rename_i el p id q k n hk h1 h2;split at h
   ·rename_i e sz es ti hb hti;simp only[Option.some.injEq,Prod.mk.injEq]at h;obtain⟨rfl,rfl,rfl⟩:=h;obtain⟨hp,hq,hn,he,rfl⟩:=hv;have hd:=hT.sl hk;obtain⟨ie,de,hi',_,_,hsz',_⟩:=hT.get hti;have e1:=qF hg r h1 hp;have e2:=(qF hg r h2 hq).p_inv;generalize hu1:Act.eval ⟨tmps,[]⟩ a=u1 at e1;generalize hu2:Act.eval ⟨tmps,[]⟩ i=u2 at e2;cases e1 with
    | ms hval _ =>
    cases e2;have hbx:=r.box id _ (zD hb);cases hbx with
    | rowN h0 hv0=>simp at he
    | @row _ _ _ bk cap arr h0 hv0 hh hs hlc hm ho hz hc =>
    rw[hv0]at hval;subst hval;have hso:(sizeOf el).run P w = .ok ti.size w:=by simp[sizeOf,typeInfo,hi',hsz']
    refine⟨.pointer (some ⟨bk,n.toNat * ti.size+0,none⟩), ?_,.rptr h0⟩;have hb:n<es.length:=by omega
    simp[execOp,hu1,hu2,Instr.indexAt,asIntOf,run_underlying hd,hn,hb,hso,jX]
   cases h
  cases h
 ·rename_i t a f;split at h
  ·rename_i fs _ _ _ _ p vv hti h1;split at h
   ·cases h
   rename_i off ft hf;split at h
   ·cases h
   rename_i ti hft;split at h
   ·cases h
   rename_i m hm;obtain⟨i0,d0,_,hd,hd2,_⟩:=hT.get hti;obtain⟨l,rfl,hl⟩:=mM hd2;subst hl;obtain⟨ie,de,hi',_,_,hsz',_⟩:=hT.get hft;rw[bG]at hf;obtain⟨fd,hfd,hfe⟩:=bF.1 hf;cases hfe;rw[eJ]at hfd;have hso:(sizeOf fd.type).run P w = .ok ti.size w:=by simp[sizeOf,typeInfo,hi',hsz']
   have go:∀ (b o:Nat),Act.eval ⟨tmps,[]⟩ a = .pointer (some ⟨b,o,none⟩) ->
     (execOp (Act.eval ⟨tmps,[]⟩) ⟨dst,.fieldAddr t a f,ty,pos,after,guard⟩).run P w = .ok (.value (.pointer (some ⟨b,o+fd.offset,none⟩))) w:=by
    intro b o hu;simp[execOp,hu,Instr.fieldAt,run_underlying hd,hfd,Instr.sureAddr,fieldPlace,hso,hm,jX]
   split at h
   ·rename_i cs;simp only[Option.some.injEq,Prod.mk.injEq]at h;obtain⟨rfl,rfl,rfl⟩:=h;have e1:=qF hg r h1 hv;generalize hu1:Act.eval ⟨tmps,[]⟩ a=u1 at e1;cases e1 with
    | @cptr b o _ k1 k2 =>
    refine⟨_,go b o hu1,.cptr (fun j d hd' => ?_) (fun j d u hd' hu' => ?_)⟩
    ·rw[bZ]at hd';have:=k1 _ d hd';rw[<-fM]at this;exact this
    rw[bZ]at hd';exact k2 _ d u hd' (by rw[<-fM];exact hu')
   ·rename_i id o;simp only[Option.some.injEq,Prod.mk.injEq]at h;obtain⟨rfl,rfl,rfl⟩:=h;have e1:=qF hg r h1 hv;generalize hu1:Act.eval ⟨tmps,[]⟩ a=u1 at e1;cases e1 with
    | ptr hb=>exact⟨_,go _ o hu1,.ptr hb⟩
   ·rename_i id j sz o;simp only[Option.some.injEq,Prod.mk.injEq]at h;obtain⟨rfl,rfl,rfl⟩:=h;have e1:=qF hg r h1 hv;generalize hu1:Act.eval ⟨tmps,[]⟩ a=u1 at e1;cases e1 with
    | rptr hb =>
    refine⟨_,go _ _ hu1, ?_⟩;rw[fM];exact .rptr hb
   cases h
  cases h
 ·rename_i t a;split at h;rename_i p vv h1;split at h
  ·rename_i q y orc2 hl;simp only[Option.some.injEq,Prod.mk.injEq]at h;obtain⟨rfl,rfl,rfl⟩:=h;obtain⟨y',e,hy⟩:=zEE hT r hl hv.2 (qF hg r h1 hv.1);exact⟨y',by simp[execOp,e],hy⟩
  cases h
 ·rename_i a;split at h
  ·rename_i p cs h1;simp only[Option.some.injEq,Prod.mk.injEq]at h;obtain⟨rfl,rfl,rfl⟩:=h;have e1:=qF hg r h1 hv;generalize hu1:Act.eval ⟨tmps,[]⟩ a=u1 at e1;cases e1 with
   | cptr k1 k2=>exact⟨_,by simp[execOp,hu1],.cptr k1 k2⟩
  ·rename_i p id o h1;simp only[Option.some.injEq,Prod.mk.injEq]at h;obtain⟨rfl,rfl,rfl⟩:=h;have e1:=qF hg r h1 hv;generalize hu1:Act.eval ⟨tmps,[]⟩ a=u1 at e1;cases e1 with
   | ptr hb=>exact⟨_,by simp[execOp,hu1],.ptr hb⟩
  ·rename_i p id j sz o h1;simp only[Option.some.injEq,Prod.mk.injEq]at h;obtain⟨rfl,rfl,rfl⟩:=h;have e1:=qF hg r h1 hv;generalize hu1:Act.eval ⟨tmps,[]⟩ a=u1 at e1;cases e1 with
   | rptr hb=>exact⟨_,by simp[execOp,hu1],.rptr hb⟩
  cases h
 ·rename_i t a lo hi;split at h
  ·rename_i p vv q l s hh h1 h2 h3;split at h
   ·rename_i cnd y hs;simp only[Option.some.injEq,Prod.mk.injEq]at h;obtain⟨rfl,rfl,rfl⟩:=h;obtain⟨hp,hq,hs',hc⟩:=hv;have b1:=qYB hg r h2 hq;have b2:=qYB hg r h3 hs';have b1':(l=none/\lo.map (Act.eval ⟨tmps,[]⟩)=none)\/∃ k i,l=some i/\lo.map (Act.eval ⟨tmps,[]⟩)=some (.int k i):=b1.imp (fun⟨a,b⟩=>⟨a,by rw[b];rfl⟩) id;have b2':(hh=none/\hi.map (Act.eval ⟨tmps,[]⟩)=none)\/∃ k i,hh=some i/\hi.map (Act.eval ⟨tmps,[]⟩)=some (.int k i):=b2.imp (fun⟨a,b⟩=>⟨a,by rw[b];rfl⟩) id;obtain⟨y',e,hy⟩:=zNN hT hs hc (qF hg r h1 hp) b1' b2' w;exact⟨y',by simp[execOp,e],hy⟩
   cases h
  cases h
 ·rename_i b args argTypes;split at h
  ·rename_i a t ha ht;have ea:args = #[a]:=qIF ha;have et:argTypes = #[t]:=qIF ht;subst ea;subst et;split at h;rename_i p vv h1;split at h
   ·rename_i d hl;simp only[Option.some.injEq,Prod.mk.injEq]at h;obtain⟨rfl,rfl,rfl⟩:=h;obtain⟨y,e,hy⟩:=zYH hT r hl (qF hg r h1 hv) ty;refine⟨y, ?_,.p hy⟩;simp[execOp,resolve,invoke,builtin,e]
   cases h
  ·rename_i _ a a' ha;have ea:args = #[a,a']:=qIF ha;subst ea;split at h
   ·rename_i p k x1 q k' x2 h1 h2;split at h
    ·rename_i hk;subst hk;simp only[Option.some.injEq,Prod.mk.injEq]at h;obtain⟨rfl,rfl,rfl⟩:=h;have e1:=(qF hg r h1 hv.1).p_inv;have e2:=(qF hg r h2 hv.2).p_inv;generalize hu1:Act.eval ⟨tmps,[]⟩ a=u1 at e1;generalize hu2:Act.eval ⟨tmps,[]⟩ a'=u2 at e2;cases e1 with
     | int k1 k2 =>
     cases e2 with
     | int k3 k4 =>
     refine⟨.int k (if x2 > x1 then x2 else x1),by simp[execOp,resolve,invoke,builtin,hu1,hu2,Builtin.max_,Builtin.max2],.p (.int ?_ ?_)⟩ <;> split <;> assumption
    cases h
   cases h
  ·rename_i _ a a' ha;have ea:args = #[a,a']:=qIF ha;subst ea;split at h
   ·rename_i p k x1 q k' x2 h1 h2;split at h
    ·rename_i hk;subst hk;simp only[Option.some.injEq,Prod.mk.injEq]at h;obtain⟨rfl,rfl,rfl⟩:=h;have e1:=(qF hg r h1 hv.1).p_inv;have e2:=(qF hg r h2 hv.2).p_inv;generalize hu1:Act.eval ⟨tmps,[]⟩ a=u1 at e1;generalize hu2:Act.eval ⟨tmps,[]⟩ a'=u2 at e2;cases e1 with
     | int k1 k2 =>
     cases e2 with
     | int k3 k4 =>
     refine⟨.int k (if x2<x1 then x2 else x1),by simp[execOp,resolve,invoke,builtin,hu1,hu2,Builtin.min_,Builtin.min2],.p (.int ?_ ?_)⟩ <;> split <;> assumption
    cases h
   cases h
  cases h
 ·rename_i fn first cap
  split at h
  ·rename_i f hf hc;simp only[Option.some.injEq,Prod.mk.injEq]at h;obtain⟨rfl,rfl,rfl⟩:=h;have ea:first = #[]:=qIF hf
   have et:cap = #[]:=qIF hc;subst ea;subst et;exact⟨_,by simp[execOp,Instr.makeFunc],.p (.fn f)⟩
  simp only[Option.some.injEq,Prod.mk.injEq]at h;obtain⟨rfl,rfl,rfl⟩:=h;obtain⟨f1,f2⟩:=oW hg r first
  obtain⟨c1,c2⟩:=oW hg r cap;exact⟨_,by simp only[execOp,Instr.makeFunc];rfl,.func f1 c1 f2 c2⟩
 ·rename_i t parts;split at h
  ·rename_i fs _ _ z _ hti;split at h
   ·rename_i zs hz hall;split at h
    ·rename_i p cs hb;simp only[Option.some.injEq,Prod.mk.injEq]at h;obtain⟨rfl,rfl,rfl⟩:=h;obtain⟨i0,d0,hi0,hd,hd2,_,_,hzero,_⟩:=hT.get hti;obtain⟨l,rfl,hl⟩:=mM hd2;subst hl;obtain⟨pl,hpl,hpl2⟩:=qWG hT l.toList hall;cases hzz:i0.zero with
     | none=>rw[hzz]at hzero;simp at hzero;subst hzero;simp[V.cells]at hz
     | some z0 =>
      rw[hzz]at hzero;simp only[eV,dM]at hzero;subst hzero;have hc0:=Cells.of (vG M μ z0) hz;obtain⟨_,arr',hfill,hcells⟩:=qYA hT hg r (places:=pl.toArray) (fun i o t ti hi ht=>by simpa using hpl2 i o t ti hi ht) parts.toList True zs z0.cells p cs hc0 hb hv;have hbuilt:P.built t (parts.map fun x=>(x.1,Act.eval ⟨tmps,[]⟩ x.2)).toList=some arr':=by
       simp only[Program.built,hi0,hd,hzz,hpl];rw[gF];exact hfill
      have:=run_build (P:=P) w t _ _ hbuilt;refine⟨.agg arr', ?_,.agg hcells.size hcells.one hcells.get⟩;simp only[execOp];rw[Sem.run_bind];simp only[this];rfl
    cases h
   cases h
  cases h
 cases h
end
mutual
def iS (H:List (Nat × Box)):V->PD->Prop
 | .p d,d'=>d=d'
 | .nilsl,.sl _ es=>es=[]
 | .ms id,.sl sz es=>match zS id H with
  | some (.row _ sz' es')=>sz'=sz/\es'=es
  | _=>False
 | .agg cs,.agg ds=>iP H cs ds
 | .tuple cs,.tup ds=>iP H cs ds
 | .cptr cs,.ref ds=>cs=ds
 | .func (.func f) fs caps,.clo g ds=>fs=[]/\f=g/\iP H caps ds
 | _,_=>False
def iP (H:List (Nat × Box)):List V->List PD->Prop
 | [],[]=>True
 | x::xs,d::ds=>iS H x d/\iP H xs ds
 | _,_=>False
end
theorem iX {H:List (Nat × Box)}:∀ {xs:List V} {ds:List PD},iP H xs ds->xs.length=ds.length
 | [],[],_=>rfl
 | _::_,_::_,h=>by simp only[iP]at h;simp[iX h.2]
 | [],_::_,h=>by simp only[iP]at h
 | _::_,[],h=>by simp only[iP]at h
theorem iY {H:List (Nat × Box)}:∀ {xs:List V} {ds:List PD},iP H xs ds->∀ {i:Nat} {x:V} {d:PD},xs[i]?=some x->ds[i]?=some d->iS H x d
 | [],[],_,i,x,d,hx,_=>by simp at hx
 | y::ys,e::es,h,i,x,d,hx,hd=>by
  simp only[iP]at h;cases i with
  | zero=>simp at hx hd;subst hx;subst hd;exact h.1
  | succ i=>simp at hx hd;exact iY h.2 hx hd
 | [],_::_,h,_,_,_,_,_=>by simp only[iP]at h
 | _::_,[],h,_,_,_,_,_=>by simp only[iP]at h
theorem qTN {M M':qY} {μ:Mu} {H:List (Nat × Box)} (hM:∀ b o v,M b o=some v->M' b o=some v)
  (hH:∀ id e sz es,zS id H=some (.row e sz es)->Rd M' (μ id).val (.sl sz es)) {u:Value} {x:V} (r:RV M μ u x):∀ {d:PD},iS H x d->Rd M' u d:=by
 induction r with
 | p r=>intro d h;simp only[iS]at h;subst h;exact r.mono hM
 | nilsl =>
  intro d h;cases d with
  | sl sz es =>
   simp only[iS]at h;subst h;exact .sl 0 0 rfl (bP _) (by simp[maxLen]) (fun h=>(h rfl).elim) (fun i e h=>by simp at h) (fun i e j h=>by simp at h) (fun i e j d u h=>by simp at h)
  | _=>simp only[iS]at h
 | @ms u id hu _ =>
  intro d h;cases d with
  | sl sz es =>
   simp only[iS]at h;split at h
   ·rename_i e sz' es' hb;obtain⟨rfl,rfl⟩:=h;rw[hu];exact hH id e _ _ hb
   exact h.elim
  | _=>simp only[iS]at h
 | @agg arr cs h1 h2 h3 ih =>
  intro d h;cases d with
  | agg ds =>
   simp only[iS]at h;refine .agg (h1.trans (iX h)) h2 fun i u d hu hd => ?_;have hi:i<cs.length:=by rw[<-h1];exact(cC.1 hu).1
   have hx:cs[i]?=some cs[i]:=by simp[hi]
   exact ih i u _ hu hx (iY h hx hd)
  | _=>simp only[iS]at h
 | @tuple arr cs h1 h2 ih =>
  intro d h;cases d with
  | tup ds =>
   simp only[iS]at h;refine .tup (h1.trans (iX h)) fun i u d hu hd => ?_;have hi:i<cs.length:=by rw[<-h1];exact(cC.1 hu).1
   have hx:cs[i]?=some cs[i]:=by simp[hi]
   exact ih i u _ hu hx (iY h hx hd)
  | _=>simp only[iS]at h
 | @cptr b o cs h1 h2 =>
  intro d h;cases d with
  | ref ds =>
   simp only[iS]at h;subst h;exact(Rd.ref h1 h2).mono hM
  | _=>simp only[iS]at h
 | @func fn fa ca fs cs h1 h2 h3 h4 ih1 ih2 =>
  intro d h;cases fn with
  | func f =>
   cases d with
   | clo g ds =>
    simp only[iS]at h;obtain⟨rfl,rfl,h⟩:=h;obtain rfl:fa = #[]:=gG h1;refine .clo (h2.trans (iX h)) fun i u d hu hd => ?_;have hi:i<cs.length:=by rw[<-h2];exact(cC.1 hu).1
    have hx:cs[i]?=some cs[i]:=by simp[hi]
    exact ih2 i u _ hu hx (iY h hx hd)
   | _=>simp only[iS]at h
  | _=>cases d <;> simp only[iS]at h
 | _=>intro d h;simp only[iS]at h
theorem kZ {M:qY} {μ:Mu} {u:Value} {x:V} {d:PD} (r:RV M μ u x) (h:iS [] x d):Rd M u d :=
 qTN (fun _ _ _ h=>h) (fun id e sz es hb=>by simp[zS]at hb) r h
theorem qIP {M M':qY} {μ:Mu} {w:World} {id:Nat} {e:TypeId} {sz:Nat} {es:List PD} (r:RBox M μ w id (.row e sz es)) (hM:∀ b o v,M b o=some v->M' b o=some v)
  (hc:∀ b,(μ id).blk=some b->∀ o v,w.cell? ⟨b,o,none⟩=some v->M' b o=some v):Rd M' (μ id).val (.sl sz es):=by
 cases r with
 | rowN h0 hv =>
  rw[hv];exact .sl 0 0 rfl (bP _) (by simp[maxLen]) (fun h=>(h rfl).elim) (fun i e h=>by simp at h) (fun i e j h=>by simp at h) (fun i e j d u h=>by simp at h)
 | @row _ _ _ b cap arr h0 hv hh hs hlc hm ho hz hcc =>
  rw[hv];have hcell:∀ j,w.cell? ⟨b,j,none⟩=arr[j]?:=fun j=>zQ hh;refine .sl b 0 rfl hlc hm (fun _=>rfl) hz (fun i e' j he hj => ?_) (fun i e' j d u he hd hu => ?_)
  ·have hi:=(bB.1 he).1;have hlt:i * sz+j<arr.size:=by
    rw[hs];calc i * sz+j<i * sz+sz:=by omega
     _=(i+1) * sz:=by rw[dC,eI]
     _<=cap * sz:=cM _ (by omega)
   refine⟨arr[i * sz+j], ?_,ho (i * sz+j) _ (by simp[hlt])⟩;rw[dK];exact hc b h0 _ _ (by rw[hcell];simp[hlt])
  rw[dK]at hu;have hi:=(bB.1 he).1;have hj:j<sz:=by rw[<-hz i e' he];exact(bB.1 hd).1
  have hlt:i * sz+j<arr.size:=by
   rw[hs];calc i * sz+j<i * sz+sz:=by omega
    _=(i+1) * sz:=by rw[dC,eI]
    _<=cap * sz:=cM _ (by omega)
  have:=hc b h0 (i * sz+j) arr[i * sz+j] (by rw[hcell];simp[hlt]);rw[this]at hu;cases hu;exact(hcc i e' j d _ he hd (by simp[hlt])).mono hM
def qDC (P : Program) (f : FuncId) : Prop := ∃ fn c, P.funcs[f]? = some fn ∧ (fn.name == "runtime.NumGoroutine") = false ∧ fn.body = some c
def AFn (P:Program) (G:qT) (f:FuncId) (args:List PD) (r:PD):Prop:=qDC P f/\AF P G f args r
theorem uG {P:Program} {f:FuncId} (h:qDC P f) (vs:Array Value) (w:World):(callFunc f vs).run P w = .ok (.enter f vs) w:=by
 obtain⟨fn,c,hf,hn,hb⟩:=h
 have hn' : ¬ fn.name = "runtime.NumGoroutine" := by simpa using hn
 simp[callFunc,hf,hn',hb,Sem.run,program]
section
variable {P:Program} {T:Tab} {G:qT}
theorem wAX {o:Oper} {st:St} {x:Operand} {args:Array Operand} {tys:Array TypeId} {f:FuncId} {as:List PD} {r:PD} {p:Prop}
  (ho:o.op = .call { callee := .value x,args:=args,argTypes:=tys }) (hf:st.arg G x=(p,.p (.fn f))) (hp:p) (hc:AFn P G f as r)
  {q:List Prop} {ys:List V} (hargs:args.toList.map (st.arg G)=q.zip ys) (hlen:q.length=ys.length) (hq:∀ p∈q,p) (hfit:iP [] ys as):Yields P G o st (.p r) st:=by
 intro c M μ tmps w hg rel;have h1:=(qF hg rel hf hp).p_inv;generalize hu:Act.eval ⟨tmps,[]⟩ x=u at h1;cases h1;have hsize:args.size=ys.length:=by
  have:=congrArg List.length hargs;simpa[List.length_zip,hlen]using this
 have e:(execOp (Act.eval ⟨tmps,[]⟩) o).run P w = .ok (.enter f (args.map (Act.eval ⟨tmps,[]⟩))) w:=by
  simp[execOp,ho,resolve,Deferred.ofValue,hu,invoke,uG hc.1]
 rw[e];have hrd:∀ (i:Nat) u d,(args.map (Act.eval ⟨tmps,[]⟩))[i]?=some u->as[i]?=some d->Rd M u d:=by
  intro i u d hu hd;rw[fQ]at hu;obtain⟨y,hy,rfl⟩:=bF.1 hu;have hi:i<args.size:=(cC.1 hy).1;have h2:(args.toList.map (st.arg G))[i]?=some (st.arg G y):=by simp[hy]
  rw[hargs]at h2;have hiq:i<q.length:=by omega
  have hiy:i<ys.length:=by omega
  have h3:(q.zip ys)[i]?=some (q[i],ys[i]):=by simp[List.getElem?_zip_eq_some,hiq,hiy]
  rw[h3]at h2;cases h2e:st.arg G y with
  | mk a b =>
  rw[h2e]at h2;cases h2;have hv:=qF hg rel h2e (hq _ (dV hiq));exact kZ hv (iY hfit (by simp[hiy]) hd)
 have hfl:=iX hfit;refine(hc.2 M w _ (hg.go rel) rel.mem (by simp[hsize,hfl]) hrd).mono ?_;rintro e w' ⟨v,M',rfl,hv,hmem,hM,hold,hbel⟩;exact⟨v,rfl,M',μ,rel.grows (lX hbel) hM hmem hold,.p hv⟩
def qCW:List V->Option (List PD)
 | []=>some []
 | .p d::r=>match qCW r with
  | some ds=>some (d::ds)
  | none=>none
 | .cptr cs::r=>match qCW r with
  | some ds=>some (.ref cs::ds)
  | none=>none
 | _::_=>none
theorem qAL {H:List (Nat × Box)}:∀ {vs:List V} {ds:List PD},qCW vs=some ds->iP H vs ds
 | [],ds,h=>by simp only[qCW,Option.some.injEq]at h;subst h;simp only[iP]
 | x::r,ds,h=>by
  cases x with
  | p d =>
   simp only[qCW]at h;split at h
   ·rename_i ds' h';cases h;simp only[iP,iS];exact⟨trivial,qAL h'⟩
   cases h
  | cptr cs =>
   simp only[qCW]at h;split at h
   ·rename_i ds' h';cases h;simp only[iP,iS];exact⟨trivial,qAL h'⟩
   cases h
  | _=>simp[qCW]at h
def qUA:V->Option (FuncId × List PD)
 | .p (.fn f)=>some (f,[])
 | .func (.func f) [] caps=>match qCW caps with
  | some ds=>some (f,ds)
  | none=>none
 | _=>none
theorem qTZ {o:Oper} {st:St} {x:Operand} {args:Array Operand} {tys:Array TypeId} {f:FuncId} {as ds:List PD} {p:Prop} {cal:V}
  (ho:o.op = .call { callee := .value x,args:=args,argTypes:=tys }) (hf:st.arg G x=(p,cal)) (hp:p) (hcal:qUA cal=some (f,ds)) (hc:qDC P f)
  {q:List Prop} {ys:List V} (hargs:args.toList.map (st.arg G)=q.zip ys) (hlen:q.length=ys.length) (hq:∀ p∈q,p) (hfit:iP [] ys as)
  {c:Ctx} {M:qY} {μ:Mu} {tmps:Array Value} {w:World} (hg:qAD G c) (rel:Rel c M μ st tmps w) :
  ∃ vs:Array Value,(execOp (Act.eval ⟨tmps,[]⟩) o).run P w = .ok (.enter f vs) w/\vs.size=(as++ds).length/\∀ (i:Nat) u d,vs[i]?=some u->(as++ds)[i]?=some d->Rd M u d:=by
 have h1:=qF hg rel hf hp;have hsize:args.size=ys.length:=by
  have:=congrArg List.length hargs;simpa[List.length_zip,hlen]using this
 have hfl:=iX hfit;have hrd:∀ (i:Nat) u d,(args.map (Act.eval ⟨tmps,[]⟩))[i]?=some u->as[i]?=some d->Rd M u d:=by
  intro i u d hu hd;rw[fQ]at hu;obtain⟨y,hy,rfl⟩:=bF.1 hu;have hi:i<args.size:=(cC.1 hy).1;have h2:(args.toList.map (st.arg G))[i]?=some (st.arg G y):=by simp[hy]
  rw[hargs]at h2;have hiq:i<q.length:=by omega
  have hiy:i<ys.length:=by omega
  have h3:(q.zip ys)[i]?=some (q[i],ys[i]):=by simp[List.getElem?_zip_eq_some,hiq,hiy]
  rw[h3]at h2;cases h2e:st.arg G y with
  | mk a b =>
  rw[h2e]at h2;cases h2;have hv:=qF hg rel h2e (hq _ (dV hiq));exact kZ hv (iY hfit (by simp[hiy]) hd)
 generalize hu:Act.eval ⟨tmps,[]⟩ x=u at h1;unfold qUA at hcal;split at hcal
 ·cases hcal;have h1:=h1.p_inv;cases h1;refine⟨args.map (Act.eval ⟨tmps,[]⟩),by simp[execOp,ho,resolve,Deferred.ofValue,hu,invoke,uG hc],by simp[hsize,hfl], ?_⟩;simpa using hrd
 ·rename_i f' caps;split at hcal
  ·rename_i ds' hds;cases hcal;cases h1 with
   | @func fn fa ca fs cs h2 h3 h4 h5 =>
   obtain rfl:fa = #[]:=gG h2;have hcf:=qAL (H:=[]) hds;refine⟨args.map (Act.eval ⟨tmps,[]⟩)++ca,by simp[execOp,ho,resolve,Deferred.ofValue,hu,invoke,uG hc],by simp[hsize,hfl,h3,iX hcf],fun i u d hu hd => ?_⟩;rw[eX]at hu;rw[cF]at hd;have hs1:(args.map (Act.eval ⟨tmps,[]⟩)).size=as.length:=by simp[hsize,hfl]
   rw[hs1]at hu;split at hu
   ·rename_i hlt;rw[bE hlt]at hd;exact hrd i u d hu hd
   rename_i hlt;rw[bD hlt]at hd;have hi:i-as.length<caps.length:=by rw[<-h3];exact(cC.1 hu).1
   have hx:caps[i-as.length]?=some (caps[i-as.length]'hi):=by simp[hi]
   exact kZ (h5 _ u _ hu hx) (iY hcf hx hd)
  cases hcal
 cases hcal
theorem zWO {o:Oper} {st:St} {x:Operand} {args:Array Operand} {tys:Array TypeId} {f:FuncId} {as ds:List PD} {r:PD} {p:Prop} {cal:V}
  (ho:o.op = .call { callee := .value x,args:=args,argTypes:=tys }) (hf:st.arg G x=(p,cal)) (hp:p) (hcal:qUA cal=some (f,ds)) (hc:AFn P G f (as++ds) r)
  {q:List Prop} {ys:List V} (hargs:args.toList.map (st.arg G)=q.zip ys) (hlen:q.length=ys.length) (hq:∀ p∈q,p) (hfit:iP [] ys as):Yields P G o st (.p r) st:=by
 intro c M μ tmps w hg rel;obtain⟨vs,e,hsz,hrd⟩:=qTZ ho hf hp hcal hc.1 hargs hlen hq hfit hg rel;rw[e];refine(hc.2 M w _ (hg.go rel) rel.mem hsz hrd).mono ?_;rintro e w' ⟨v,M',rfl,hv,hmem,hM,hold,hbel⟩;exact⟨v,rfl,M',μ,rel.grows (lX hbel) hM hmem hold,.p hv⟩
def qNQ (T:Tab) (st:St):List ResultVar->Option (Prop × List V)
 | []=>some (True,[])
 | .tmp t::r=>match qNQ T st r with
  | some (p,l)=>some (p,st.tmps.getD t .dead::l)
  | none=>none
 | .cell a t::r=>match qWV T st t (st.tmps.getD a .dead) [],qNQ T st r with
  | some (q,x,_),some (p,l)=>some (q/\p,x::l)
  | _,_=>none
def qSC (tmps:Array Value):ResultVar->Sem Value
 | .tmp t=>pure (tmps.getD t undef)
 | .cell a t=>do loadVar t (<-asAddr (tmps.getD a undef))
theorem qZF (hT:TOK P T) {c:Ctx} {M:qY} {μ:Mu} {st:St} {tmps:Array Value} {w:World} (r:Rel c M μ st tmps w):∀ (rs:List ResultVar) (p:Prop) (l:List V),
  qNQ T st rs=some (p,l)->p->∃ us:List Value,(rs.mapM (qSC tmps)).run P w = .ok us w/\us.length=l.length/\∀ (i:Nat) u x,us[i]?=some u->l[i]?=some x->RV M μ u x
 | [],p,l,h,hp=>by
  simp only[qNQ,Option.some.injEq,Prod.mk.injEq]at h;obtain⟨rfl,rfl⟩:=h;exact⟨[],by simp,rfl,fun i u x hu=>by simp at hu⟩
 | .tmp t::rs,p,l,h,hp=>by
  simp only[qNQ]at h;split at h
  ·rename_i p' l' h';simp only[Option.some.injEq,Prod.mk.injEq]at h;obtain⟨rfl,rfl⟩:=h;obtain⟨us,e,hl,hr⟩:=qZF hT r rs _ _ h' hp;refine⟨tmps.getD t undef::us, ?_,by simp[hl],fun i u x hu hx => ?_⟩
   ·simp only[List.mapM_cons,qSC,Sem.run_bind,Sem.run_pure,Result.andThen_ok];rw[e];rfl
   cases i with
   | zero =>
    simp at hu hx;subst hu;subst hx;have:=qEZ (G:=fun _=>none) (nV _) r (.tmp t);simpa[Act.eval,St.ev]using this
   | succ i=>simp at hu hx;exact hr i u x hu hx
  cases h
 | .cell a t::rs,p,l,h,hp=>by
  simp only[qNQ]at h;split at h
  ·rename_i q x o' p' l' hld h';simp only[Option.some.injEq,Prod.mk.injEq]at h;obtain⟨rfl,rfl⟩:=h;obtain⟨us,e,hl,hr⟩:=qZF hT r rs _ _ h' hp.2;have ha:RV M μ (tmps.getD a undef) (st.tmps.getD a .dead):=by
    have:=qEZ (G:=fun _=>none) (nV _) r (.tmp a);simpa[Act.eval,St.ev]using this
   obtain⟨v,ev,hv⟩:=zEE hT r hld hp.1 ha;have hadr:∃ ad,tmps.getD a undef = .pointer (some ad):=by
    generalize tmps.getD a undef=u at *;generalize st.tmps.getD a V.dead=y at *;unfold qWV at hld;split at hld
    ·cases hld
    split at hld
    ·cases ha;exact⟨_,rfl⟩
    ·cases ha;exact⟨_,rfl⟩
    ·cases ha;exact⟨_,rfl⟩
    cases hld
   obtain⟨ad,had⟩:=hadr;have e2:(do loadVar t (<-asAddr (tmps.getD a undef)):Sem Value).run P w = .ok v w:=by
    rw[had]at ev ⊢;have:(Instr.loadAt t (.pointer (some ad)))=loadVar t ad:=rfl;rw[this]at ev;simp[asAddr,ev]
   refine⟨v::us, ?_,by simp[hl],fun i u y hu hy => ?_⟩
   ·simp only[List.mapM_cons,qSC];rw[Sem.run_bind,e2];simp only[Result.andThen_ok,Sem.run_bind];rw[e];rfl
   cases i with
   | zero=>simp at hu hy;subst hu;subst hy;exact hv
   | succ i=>simp at hu hy;exact hr i u y hu hy
  cases h
def qYQ:List V->V
 | [x]=>x
 | l => .tuple l
def Fin (T:Tab) (rs:List ResultVar) (r:PD) (e:Exit) (st:St):Prop :=
 (e = .normal\/e = .ret)/\∃ p l,qNQ T st rs=some (p,l)/\p/\iS st.H (qYQ l) r
def lC (n:Nat) (args:List PD):St:=⟨args.map .p++List.replicate (n-args.length) .dead,[],[],0⟩
theorem qOX (hT:TOK P T) {c:Ctx} {M:qY} {μ:Mu} {st:St} {tmps:Array Value} {w:World} (r:Rel c M μ st tmps w) {fn:Func} {p:Prop} {l:List V}
  (h:qNQ T st fn.results.toList=some (p,l)) (hp:p):∃ v,(results fn tmps).run P w = .ok v w/\RV M μ v (qYQ l):=by
 obtain⟨us,e,hl,hr⟩:=qZF hT r _ _ _ h hp;have e0:results fn tmps=(do let vs <-fn.results.mapM (qSC tmps);pure (if h:vs.size=1 then vs[0] else .tuple vs)):=by
  unfold results;congr 1
 have e2:(fn.results.mapM (qSC tmps)).run P w = .ok us.toArray w:=by
  rw[Array.mapM_eq_mapM_toList];show(Functor.map List.toArray _:Sem _).run P w=_
  rw[map_eq_pure_bind,Sem.run_bind,e];rfl
 have e3:(results fn tmps).run P w = .ok (if h:us.toArray.size=1 then us.toArray[0] else .tuple us.toArray) w:=by
  rw[e0,Sem.run_bind,e2];rfl
 refine⟨_,e3, ?_⟩;match l,us,hl,hr with
 | [],[],_,hr=>exact .tuple rfl fun i u x hu=>by simp at hu
 | [x],[u],_,hr=>simpa[qYQ]using hr 0 u x rfl rfl
 | x::y::l,u::v::us,hl,hr =>
  simp only[fX,cA,qYQ];rw[dif_neg (by omega)];exact .tuple (by simpa using hl) fun i a b ha hb=>hr i a b (by simpa using ha) hb
theorem AFn.intro (hT : TOK P T) {f : FuncId} {fn : Func} {c : Code} {args : List PD} {r : PD} (hf : P.funcs[f]? = some fn) (hn : (fn.name == "runtime.NumGoroutine") = false) (hb : fn.body = some c)
  (h:AW P G c (Fin T fn.results.toList r) (lC fn.ntmps args)):AFn P G f args r:=by
 refine⟨⟨fn,c,hf,hn,hb⟩,fun M w vs hg hmem hsz hrd => ?_⟩;refine calls_of_wp hf hb ?_;have hrel:Rel ⟨w.heap.size,w,M,fun _=>⟨none,undef,[]⟩,fun _=>False⟩ M (fun _=>⟨none,undef,[]⟩) (lC fn.ntmps args) (vs++Array.replicate (fn.ntmps-vs.size) undef) w:=by
  refine⟨hmem,fun _ _ _ h=>h,fun _ _ _=>rfl,⟨by simp[lC,hsz],fun i u x hu hx => ?_⟩,fun i hi=>(by cases hi),fun id bx h=>by simp[lC]at h,by simp[lC],fun i j b h=>by simp[lC,qM]at h,
   fun i b h=>by simp[lC,qM]at h,bP _,Kept.refl _ _⟩
  simp only[lC]at hx;rw[cF]at hx;split at hx
  ·rename_i hi;rw[bG]at hx;obtain⟨d,hd,rfl⟩:=bF.1 hx;have hi':i<vs.size:=by rw[hsz];simpa using hi
   rw[eS hi']at hu;exact .p (hrd i u d hu hd)
  have:x = .dead:=by
   have:=bH hx;exact(eY.1 this).2
  subst this;exact .dead
 refine wp_mono (h _ M _ _ w (hg.ctx _) hrel) ?_;rintro e a w' ⟨st,M',μ',r',hd,hfin⟩;obtain⟨he,p,l,hres,hp,hfit⟩:=hfin;obtain⟨v,hv,hrv⟩:=qOX hT r' hres hp;let M2:qY:=fun b o=>if b<w.heap.size then M' b o else w'.cell? ⟨b,o,none⟩
 have hM2:∀ b o v,M' b o=some v->M2 b o=some v:=by
  intro b o v hv;show(if b<w.heap.size then M' b o else w'.cell? ⟨b,o,none⟩)=some v
  split
  ·exact hv
  exact r'.mem b o v hv
 have hfin2:∃ u M'',Ending.returned v = .returned u/\Rd M'' u r/\(∀ b o v,M'' b o=some v->w'.cell? ⟨b,o,none⟩=some v)/\(∀ b o v,M b o=some v->M'' b o=some v) /\
   (∀ b o,b<w.heap.size->M'' b o=M b o)/\RowKit.Below w.heap.size w w':=by
  refine⟨v,M2,rfl,qTN hM2 (fun id e sz es hb => ?_) hrv hfit,fun b o v hv => ?_,fun b o v hv=>hM2 b o v (r'.ext b o v hv),fun b o hb => ?_,⟨r'.below.os,r'.below.tape,r'.below.output,r'.below.size,fun k hk=>r'.below.block k fun h=>h.elim (fun h=>Nat.not_lt.2 h hk) fun h=>h⟩⟩
  ·have hm:=zD hb;refine qIP (r'.box id _ hm) hM2 fun b hbk o v hv => ?_;have:=(r'.own id b (qH.2 ⟨_,hm⟩) (.inl hbk)).1.resolve_right fun h=>h;show(if b<w.heap.size then M' b o else w'.cell? ⟨b,o,none⟩)=some v
   rw[bD (by exact Nat.not_lt.2 this)];exact hv
  ·have hv':(if b<w.heap.size then M' b o else w'.cell? ⟨b,o,none⟩)=some v:=hv;split at hv'
   ·exact r'.mem b o v hv'
   exact hv'
  show(if b<w.heap.size then M' b o else w'.cell? ⟨b,o,none⟩)=M b o
  rw[bE hb];exact r'.old b o fun h=>h.elim (fun h=>Nat.not_lt.2 h hb) fun h=>h
 rcases he with rfl|rfl
 ·exact⟨hd,v,hv,hfin2⟩
 exact⟨hd,v,hv,hfin2⟩
end
def qET (id:Nat):List V->List V
 | []=>[]
 | x::xs=>(match V.noRef id x with|true=>x|false => .dead)::qET id xs
def Box.kill (id:Nat):Box->Box
 | .vars e cs => .vars e (qET id cs)
 | .mp ks vs => .mp ks (qET id vs)
 | .mpx ks vs => .mpx ks (qET id vs)
 | .obj b v o rs => .obj b v o (rs.filter (· != id))
 | .prow e ps => .prow e (qET id ps)
 | b=>b
def qAH (id:Nat):List (Nat × Box)->List (Nat × Box)
 | []=>[]
 | (i,b)::r=>if i=id then qAH id r else(i,b.kill id)::qAH id r
def St.kill (st:St) (id:Nat):St:={ st with tmps:=qET id st.tmps,pins:=st.pins.filter (· != id),H:=qAH id st.H }
theorem qES (id:Nat):∀ l,jM l (qET id l)
 | []=>trivial
 | x::xs=>by
  refine⟨?_,qES id xs⟩;cases V.noRef id x
  ·exact .dead x
  exact .refl x
theorem qFR (id:Nat):∀ l,iO id (qET id l)=true
 | []=>rfl
 | x::xs=>by
  simp only[qET,iO,qFR id xs,gP];cases h:V.noRef id x
  ·rfl
  exact h
theorem qKK (id:Nat):∀ H:List (Nat × Box),(qAH id H).map (·.1)=(H.map (·.1)).filter (· ≠ id)
 | []=>rfl
 | (i,b)::r=>by
  simp only[qAH];split
  ·rename_i h;simp[h,qKK id r]
  rename_i h;simp[h,qKK id r]
theorem qIV {id:Nat}:∀ {H:List (Nat × Box)} {i:Nat} {b:Box},(i,b)∈qAH id H->i≠id/\∃ b',(i,b')∈H/\b=b'.kill id
 | [],i,b,h=>by simp[qAH]at h
 | (j,c)::r,i,b,h=>by
  simp only[qAH]at h;split at h
  ·obtain⟨h1,b',h2,h3⟩:=qIV h;exact⟨h1,b',bM.2 (.inr h2),h3⟩
  rename_i hj;rcases bM.1 h with h|h
  ·cases h;exact⟨hj,c,bM.2 (.inl rfl),rfl⟩
  obtain⟨h1,b',h2,h3⟩:=qIV h;exact⟨h1,b',bM.2 (.inr h2),h3⟩
theorem kM {id i:Nat} {H:List (Nat × Box)} (h:qM i (qAH id H)=true):i≠id/\qM i H=true:=by
 obtain⟨b,hb⟩:=qH.1 h;obtain⟨h1,b',h2,_⟩:=qIV hb;exact⟨h1,qH.2 ⟨b',h2⟩⟩
theorem qHI (id:Nat):∀ H:List (Nat × Box),kX id (qAH id H)=true
 | []=>rfl
 | (i,b)::r=>by
  simp only[qAH];split
  ·exact qHI id r
  simp only[kX,qHI id r,gP];cases b <;> simp[Box.kill,Box.noRef,qFR]
theorem qKL (id:Nat):∀ H:List (Nat × Box),qM id (qAH id H)=false
 | []=>rfl
 | (i,b)::r=>by
  simp only[qAH];split
  ·exact qKL id r
  rename_i h;simp[qM,qKL id r,h]
theorem qCV (st:St) (id:Nat):(st.kill id).fresh id=true:=by
 simp[St.fresh,St.kill,qFR,qHI,qKL]
section
variable {c:Ctx} {M:qY} {μ:Mu} {st:St} {tmps:Array Value} {w w':World}
theorem RBox.kill {id i:Nat} {b:Box} (r:RBox M μ w i b):RBox M μ w i (b.kill id):=by
 cases r with
 | vars h0 h1 h2 h3 h4 =>
  have hr:RL M μ _ _:=RL.weaken (M:=M) (μ:=μ) ⟨h2,h4⟩ (qES id _);exact .vars h0 h1 hr.1 h3 hr.2
 | row h0 hv h1 h2 h3 h4 h5 h6 h7=>exact .row h0 hv h1 h2 h3 h4 h5 h6 h7
 | rowN h0 hv=>exact .rowN h0 hv
 | iter h0 h1 h2 h3=>exact .iter h0 h1 h2 h3
 | obj h0 hv h1=>exact .obj h0 hv h1
 | mach h0 hv h1 h2 h3 h4 h5 hn h6=>exact .mach h0 hv h1 h2 h3 h4 h5 hn h6
 | machN h0 hv h1=>exact .machN h0 hv h1
 | brow h0 hv h1 h2 h3 h4 h5 h6=>exact .brow h0 hv h1 h2 h3 h4 h5 h6
 | @prow e ps b cap arr h0 hv h1 h2 h3 h4 h5 h6 =>
  have hle:=qES id ps;have hl:=jM.len hle;refine .prow h0 (by rw[<-hl];exact hv) h1 h2 (by rw[<-hl];exact h3) h4 h5 fun i u y hu hy => ?_;rcases(hle.get hy)with⟨x,hx,hxy⟩;rcases hxy.cases with e1|e1
  ·rw[<-e1];exact h6 i u x hu hx
  rw[e1];exact .dead
 | @mpx ks vs b clock es h0 hv h1 hB hl h2 h3 =>
  have hle:=qES id vs;refine .mpx h0 hv h1 hB (hl.trans (jM.len hle)) (fun e he => ?_) h3;obtain⟨i,ba,g1,g2,g3,g4⟩:=h2 e he;refine⟨i,ba,g1,g2,g3,fun y hy => ?_⟩;obtain⟨x,hx,hxy⟩:=jM.get hle hy;rcases hxy.cases with e1|e1
  ·rw[<-e1];exact g4 x hx
  rw[e1];exact .dead
 | @mp ks vs b clock es h0 hv h1 hB h2 h3 h4 h5 =>
  have hle:=qES id vs;refine .mp h0 hv h1 hB h2 (h3.trans (jM.len hle)) h4 fun i e y he hy => ?_;obtain⟨x,hx,hxy⟩:=jM.get hle hy;rcases hxy.cases with e1|e1
  ·rw[<-e1];exact h5 i e x he hx
  rw[e1];exact .dead
theorem Rel.kill (r:Rel c M μ st tmps w) (id:Nat):Rel c M μ (st.kill id) tmps w where
 mem:=r.mem
 ext:=r.ext
 old:=r.old
 slots:=r.slots.weaken (qES id _)
 pins:=fun i hi=>r.pins i (eN.1 hi).1
 box:=fun i b hb=>by
  obtain⟨_,b',h2,rfl⟩:=qIV hb;exact(r.box i b' h2).kill
 nodup:=by
  show((qAH id st.H).map (·.1)).Nodup
  rw[qKK];exact r.nodup.filter _
 inj:=fun i j b hi hj=>r.inj i j b (kM hi).2 (kM hj).2
 own:=fun i b hi=>r.own i b (kM hi).2
 size:=r.size
 below:=r.below
theorem qTD (r:Rel c M μ st tmps w) {id b:Nat} (hk:qM id st.H=true) (hb:(μ id).blk=some b):∀ j,qM j (st.kill id).H=true->¬ (μ j).has b:=by
 intro j hj hjb;obtain⟨h1,h2⟩:=kM hj;exact h1 (r.inj j id b h2 hk hjb (.inl hb))
theorem Rel.turn (r:Rel c M μ st tmps w) {b:Nat} (hB:c.mine b) (hM:∀ o,M b o=none) (hno:∀ j,qM j st.H=true->¬ (μ j).has b) (h:Turned w w' b):Rel c M μ st tmps w' where
 mem:=fun b' o v hv=>by
  have hne:b'≠b:=by rintro rfl;rw[hM o]at hv;cases hv
  exact(World.cell?_of_block (w:=w) (h.block b' hne)).trans (r.mem b' o v hv)
 ext:=r.ext
 old:=r.old
 slots:=r.slots
 pins:=r.pins
 box:=fun i bx hb=>(r.box i bx hb).mono (fun _ _ _ h=>h) rfl (fun _ _=>rfl) (fun b2 hb2=>h.block _ fun e=>hno i (qH.2 ⟨bx,hb⟩) (e ▸ hb2))
 nodup:=r.nodup
 inj:=r.inj
 own:=fun i b hi hib=>by
  have:=r.own i b hi hib;exact⟨this.1,by rw[h.size];exact this.2.1,this.2.2⟩
 size:=by rw[h.size];exact r.size
 below:=r.below.trans ⟨h.os,h.tape,h.output,Nat.le_of_eq h.size.symm,fun k hk=>h.block k (by rintro rfl;exact hk hB)⟩
theorem Rel.adoptS (r:Rel c M μ st tmps w) {id:Nat} {bx:Box} {l:Loc} (hf:st.fresh id=true)
  (hl:∀ b,l.has b->c.mine b/\b<w.heap.size/\(∀ o,M b o=none)/\∀ j,qM j st.H=true->¬ (μ j).has b)
  (hbx:RBox M (upd μ id l) w id bx):Rel c M (upd μ id l) { st with H:=(id,bx)::st.H } tmps w:=by
 obtain⟨f1,f2,f3,f4⟩:=lE hf;refine { r with slots := ?_,pins := ?_,box := ?_,nodup := ?_,inj := ?_,own := ?_ }
 ·exact r.slots.mono (fun _ _ _ h=>h) fun i hi=>qJT μ l (qPD (P:=fun i=>iO i st.tmps) f1 hi)
 ·intro i hi;rw[yM μ l (by rintro rfl;exact f2 hi)];exact r.pins i hi
 ·intro i b hb;rcases bM.1 hb with e|e
  ·cases e;exact hbx
  have hne:i≠id:=by rintro rfl;rw[qH.2 ⟨b,e⟩]at f4;cases f4
  exact(r.box i b e).mono (fun _ _ _ h=>h) (yM μ l hne) (fun j hj=>qJT μ l (by
   rintro rfl;rw[vQ f3 e]at hj;cases hj)) (fun _ _=>rfl)
 ·simp only[bA,fG];refine⟨fun hm => ?_,r.nodup⟩;obtain⟨⟨i,b⟩,hb,rfl⟩:=cO.1 hm;rw[qH.2 ⟨b,hb⟩]at f4;cases f4
 ·intro i j b hi hj hei hej;simp only[qM,cX,dD]at hi hj;by_cases hid:i=id
  ·by_cases hjd:j=id
   ·rw[hid,hjd]
   have hj':=hj.resolve_left (Ne.symm hjd);rw[hid,qK]at hei;rw[yM μ l hjd]at hej;exact((hl b hei).2.2.2 j hj' hej).elim
  have hi':=hi.resolve_left (Ne.symm hid);by_cases hjd:j=id
  ·rw[hjd,qK]at hej;rw[yM μ l hid]at hei;exact((hl b hej).2.2.2 i hi' hei).elim
  rw[yM μ l hid]at hei;rw[yM μ l hjd]at hej;exact r.inj i j b hi' (hj.resolve_left (Ne.symm hjd)) hei hej
 intro i b hi hib;simp only[qM,cX,dD]at hi;by_cases hid:i=id
 ·rw[hid,qK]at hib;have:=hl b hib;exact⟨this.1,this.2.1,this.2.2.1⟩
 rw[yM μ l hid]at hib;exact r.own i b (hi.resolve_left (Ne.symm hid)) hib
theorem Rel.adopt (r:Rel c M μ st tmps w) {id:Nat} {bx:Box} {l:Loc} (hf:st.fresh id=true)
  (hl:∀ b,l.blk=some b->c.mine b/\b<w.heap.size/\(∀ o,M b o=none)/\∀ j,qM j st.H=true->¬ (μ j).has b)
  (hbx:RBox M (upd μ id l) w id bx) (hs:l.sub=[]:=by rfl):Rel c M (upd μ id l) { st with H:=(id,bx)::st.H } tmps w :=
 r.adoptS hf (fun b hb=>hl b (lZ hs hb)) hbx
theorem zDN (r:Rel c M μ st tmps w) {b:Nat} (hb:w.heap.size<=b) (o:Nat):M b o=none:=by
 cases hm:M b o with
 | none=>rfl
 | some v=>have:=kE (r.mem _ _ _ hm);omega
theorem qWI (r:Rel c M μ st tmps w) {b:Nat} (hb:w.heap.size<=b):∀ j,qM j st.H=true->¬ (μ j).has b:=by
 intro j hj hjb;have:=(r.own j b hj hjb).2.1;omega
end
section
variable {P:Program} {T:Tab} {G:qT}
theorem qCI (hT:TOK P T) {t:TypeId} {ti:TI} (ht:T t=some ti) {zs:List V} (hz:ti.zero.cells=some zs) (M:qY) (μ:Mu) (w:World) :
  ∃ z,(zeroValue t).run P w = .ok z w/\Cells M μ z.cells zs/\(∃ i,P.info? t=some i/\i.zero=some z/\i.size=ti.size/\i.bytes=ti.bytes):=by
 obtain⟨i,d,hi,_,_,hsz,hby,hzero,_⟩:=hT.get ht;cases hzz:i.zero with
 | none=>rw[hzz]at hzero;simp at hzero;rw[<-hzero]at hz;simp[V.cells]at hz
 | some z =>
  rw[hzz]at hzero;simp only[eV,dM]at hzero;refine⟨z,by simp[zeroValue,typeInfo,hi,hzz],Cells.of (vG M μ z) (by rw[hzero];exact hz),i,hi,hzz,hsz,hby⟩
theorem zDR {c:Ctx} {M:qY} {μ:Mu} {st:St} {tmps:Array Value} {w:World} (r:Rel c M μ st tmps w) {id:Nat} (hf:st.fresh id=true) {e:TypeId} {zs:List V} {arr:Array Value}
  (hc:Cells M μ arr zs) (hn:iO id zs=true) :
  ∃ μ',Rel c M μ' { st with H:=(id,.vars e zs)::st.H } tmps (w.alloc (.cells arr e))/\RV M μ' (.pointer (some ⟨w.heap.size,0,none⟩)) (.ptr id 0):=by
 refine⟨upd μ id ⟨some w.heap.size,undef,[]⟩,r.newBox hf (Grows.alloc w _) (fun b hb => ?_) ?_ hn,.ptr (by rw[qK])⟩
 ·cases hb;exact⟨bP _,by simp⟩
 refine .vars (by rw[qK]) (heap_alloc_new w _) hc.size hc.one fun i u x hu hx=>(hc.get i u x hu hx).mono (fun _ _ _ h=>h) fun j hj=>qJT μ _ ?_;rintro rfl;rw[iQ hn hx]at hj;cases hj
theorem zWQ (hT:TOK P T) {o:Oper} {st:St} {e:TypeId} (ho:o.op = .alloc e) {ti:TI} (ht:T e=some ti) {zs:List V} (hz:ti.zero.cells=some zs) (id:Nat) (hf:st.fresh id=true)
  (hn:iO id zs=true):Yields P G o st (.ptr id 0) { st with H:=(id,.vars e zs)::st.H }:=by
 intro c M μ tmps w _ r;obtain⟨z,hzr,hzc,_⟩:=qCI hT ht hz M μ w;have e1:(execOp (Act.eval ⟨tmps,[]⟩) o).run P w = .ok (.value (.pointer (some ⟨w.heap.size,0,none⟩))) (w.alloc (.cells z.cells e)):=by
  simp[execOp,ho,Instr.alloc,hzr,newVar,newRow]
 rw[e1];obtain⟨μ',h1,h2⟩:=zDR r hf (e:=e) hzc hn;exact⟨M,μ',h1,h2⟩
theorem wEG (hT:TOK P T) {o:Oper} {st:St} {e:TypeId} {x:Operand} (ho:o.op = .box e x) {p:Prop} {v:V} (ha:st.arg G x=(p,v)) (hp:p) {zs:List V} (hz:v.cells=some zs) (id:Nat) (hf:st.fresh id=true)
  (hn:iO id zs=true):Yields P G o st (.ptr id 0) { st with H:=(id,.vars e zs)::st.H }:=by
 have _:=hT;intro c M μ tmps w hg r;have hv:=qF hg r ha hp;have hzc:=Cells.of hv hz;have e1:(execOp (Act.eval ⟨tmps,[]⟩) o).run P w = .ok (.value (.pointer (some ⟨w.heap.size,0,none⟩))) (w.alloc (.cells (Act.eval ⟨tmps,[]⟩ x).cells e)):=by
  simp[execOp,ho,Instr.box,newVar,newRow]
 rw[e1];obtain⟨μ',h1,h2⟩:=zDR r hf (e:=e) hzc hn;exact⟨M,μ',h1,h2⟩
theorem kP (w:World) (b:Nat) (cs:Array Value):Turned w (w.setRow b cs) b :=
 ⟨rfl,rfl,rfl,by simp,fun k hk=>setRow_other w b k cs hk⟩
theorem qQT (hT:TOK P T) {o:Oper} {st:St} {t:TypeId} {a x:Operand} (ho:o.op = .store t a x) {ti:TI} (ht:T t=some ti) {q:Prop} {id off:Nat} {v:V}
  (hx:st.arg G x=(q,v)) (hq:q) {e:TypeId} {cells:List V} (hb:zS id st.H=some (.vars e cells)) {xs:List V} (hxs:v.cells=some xs)
  (hsz:xs.length=ti.size) (hfit:off+xs.length<=cells.length) (c:Ctx) (M:qY) (μ:Mu) (tmps:Array Value) (w:World) (hg:qAD G c) (r:Rel c M μ st tmps w) (h1:RV M μ (Act.eval ⟨tmps,[]⟩ a) (.ptr id off)) :
  zJU P (fun u w'=>∃ M' μ',Rel c M' μ' { st with H:=zO id (.vars e (splice cells off xs)) st.H } tmps w'/\RV M' μ' u .dead) ((execOp (Act.eval ⟨tmps,[]⟩) o).run P w):=by
 have h2:=qF hg r hx hq;generalize hu1:Act.eval ⟨tmps,[]⟩ a=u1 at h1;generalize hu2:Act.eval ⟨tmps,[]⟩ x=u2 at h2;cases h1 with
 | @ptr _ _ b hbk =>
 have hc:=Cells.of h2 hxs;have hm:=zD hb;have hbx:=r.box id _ hm;cases hbx with
 | @vars _ _ b' arr h0 hh hs ho1 hcc =>
 rw[hbk]at h0;cases h0;obtain⟨i,d,hi,_,_,hszi,_⟩:=hT.get ht;have hst:=run_storeCells_at P b off e u2.cells.toList 0 arr w hh (by
  simp only[cH,dY];rw[hc.size,hs];exact hfit) (fun v hv=>by
   obtain⟨j,hj,rfl⟩:=cP.1 hv;exact hc.one j _ (by simp at hj;simp[hj]))
 simp only[cH]at hst;have e1:(execOp (Act.eval ⟨tmps,[]⟩) o).run P w = .ok .skip (w.setRow b (arr.toList.take off++u2.cells.toList++arr.toList.drop (off+u2.cells.toList.length)).toArray):=by
  have hs1:(sizeOf t).run P w = .ok ti.size w:=by simp[sizeOf,typeInfo,hi,hszi]
  have:u2.cells.size=ti.size:=by rw[hc.size,hsz]
  simp only[execOp,ho,hu1,hu2];rw[Sem.run_bind];have:(Instr.storeAt t (.pointer (some ⟨b,off,none⟩)) u2).run P w = .ok () (w.setRow b (arr.toList.take off++u2.cells.toList++arr.toList.drop (off+u2.cells.toList.length)).toArray):=by
   show(storeVar t ⟨b,off,none⟩ u2).run P w=_
   unfold storeVar;rw[Sem.run_bind,hs1];simp only[Result.andThen_ok];rw[bD (by simp[this])];exact hst
  rw[this];rfl
 rw[e1];refine⟨M,μ,r.write (qH.2 ⟨_,hm⟩) hbk (kP w b _) ?_,.dead⟩;have hlu:u2.cells.toList.length=xs.length:=by simp[hc.size]
 refine .vars hbk (setRow_heap w b arr _ e (0,0) hh) ?_ (fun j u hu => ?_) (fun j u y hu hy => ?_)
 ·simp[splice,hc.size,hs]
 ·rw[cN]at hu;rw[cD,cF]at hu;split at hu
  ·rw[bW]at hu;split at hu
   ·exact ho1 j u (by simpa using hu)
   cases hu
  rw[cF]at hu;split at hu
  ·exact hc.one _ u (by simpa using hu)
  rw[bZ]at hu;exact ho1 _ u (by simpa using hu)
 rw[cN]at hu;rw[qAU cells xs off j hfit]at hy;have hto:(arr.toList.take off).length=off:=by simp;omega
 rw[cD,cF,hto]at hu;split at hu
 ·rename_i hj;rw[bD (by omega)]at hy;rw[bW,bE hj]at hu;exact hcc j u y (by simpa using hu) hy
 rename_i hj;rw[cF,hlu]at hu;split at hu
 ·rename_i hj2;rw[bE ⟨by omega,by omega⟩]at hy;exact hc.get _ u y (by simpa using hu) hy
 rename_i hj2;rw[bD (by omega)]at hy;rw[bZ]at hu;exact hcc j u y (by rw[<-hu,show off+xs.length+(j-off-xs.length)=j from by omega];simp) hy
theorem zWK (hT:TOK P T) {o:Oper} {st:St} {t:TypeId} {a x:Operand} (ho:o.op = .store t a x) {ti:TI} (ht:T t=some ti) {p q:Prop} {id off:Nat} {v:V}
  (ha:st.arg G a=(p,.ptr id off)) (hp:p) (hx:st.arg G x=(q,v)) (hq:q) {e:TypeId} {cells:List V} (hb:zS id st.H=some (.vars e cells)) {xs:List V} (hxs:v.cells=some xs)
  (hsz:xs.length=ti.size) (hfit:off+xs.length<=cells.length):Yields P G o st .dead { st with H:=zO id (.vars e (splice cells off xs)) st.H } :=
 fun c M μ tmps w hg r=>qQT hT ho ht hx hq hb hxs hsz hfit c M μ tmps w hg r (qF hg r ha hp)
end
structure RowOf (M:qY) (sz:Nat) (es:List PD) (news:List Value):Prop where
 len:news.length=es.length * sz
 one:∀ u∈news,u.oneCell'=true
 elem:∀ (i:Nat) e,es[i]?=some e->e.cells.length=sz
 get:∀ (i:Nat) e (j:Nat) d u,es[i]?=some e->e.cells[j]?=some d->news[i * sz+j]?=some u->Rd M u d
theorem RowOf.nil (M:qY) (sz:Nat):RowOf M sz [] []:=⟨by simp,fun u h=>by simp at h,fun i e h=>by simp at h,fun i e j d u h=>by simp at h⟩
theorem zTU {i n j sz:Nat} (hi:i<n) (hj:j<sz):i * sz+j<n * sz :=
 calc i * sz+j<i * sz+sz:=by omega
  _=(i+1) * sz:=by rw[dC,eI]
  _<=n * sz:=cM _ (by omega)
theorem RowOf.append {M:qY} {sz:Nat} {es fs:List PD} {xs ys:List Value} (h:RowOf M sz es xs) (k:RowOf M sz fs ys):RowOf M sz (es++fs) (xs++ys) where
 len:=by simp[h.len,k.len,dC]
 one:=fun u hu=>(bL.1 hu).elim (h.one u) (k.one u)
 elem:=fun i e he=>by
  rw[cF]at he;split at he
  ·exact h.elem i e he
  exact k.elem _ e he
 get:=fun i e j d u he hd hu=>by
  rw[cF]at he;split at he
  ·rename_i hi;have hj:j<sz:=by rw[<-h.elem i e he];exact(bB.1 hd).1
   have:=zTU hi hj;rw[cF,bE (by rw[h.len];exact this)]at hu;exact h.get i e j d u he hd hu
  rename_i hi;have hge:xs.length<=i * sz+j:=by
   rw[h.len];have:=cM sz (fO hi);omega
  rw[cF,bD (by omega),h.len]at hu;refine k.get (i-es.length) e j d u he hd ?_;rw[<-hu];congr 1
  rw[Nat.sub_mul];have:=cM sz (fO hi);omega
section
variable {P:Program} {T:Tab} {G:qT} {c:Ctx} {M:qY} {μ:Mu} {st:St} {tmps:Array Value} {w:World}
theorem RowOf.box {M:qY} {μ:Mu} {w:World} {id b cap sz:Nat} {e:TypeId} {es:List PD} {news:List Value} {arr:Array Value} (h:RowOf M sz es news) (h0:(μ id).blk=some b)
  (hv:(μ id).val = .slice (some ⟨b,0,none⟩) es.length cap) (hh:w.heap[b]?=some (.cells arr e (0,0))) (hs:arr.size=cap * sz) (hc:es.length<=cap) (hm:cap<=maxLen)
  (hone:∀ (i:Nat) u,arr[i]?=some u->u.oneCell'=true) (hpre:arr.toList.take (es.length * sz)=news):RBox M μ w id (.row e sz es):=by
 refine .row h0 hv hh hs hc hm hone h.elem fun i e' j d u he hd hu=>h.get i e' j d u he hd ?_;have hi:=(bB.1 he).1;have hj:j<sz:=by rw[<-h.elem i e' he];exact(bB.1 hd).1
 rw[<-hpre,bW,bE (zTU hi hj)];simpa using hu
theorem RBox.cells {μ:Mu} {id sz:Nat} {e:TypeId} {es:List PD} (r:RBox M μ w id (.row e sz es)) :
  (es=[]/\(μ id).blk=none/\(μ id).val = .slice none 0 0)\/∃ b cap arr,(μ id).blk=some b/\(μ id).val = .slice (some ⟨b,0,none⟩) es.length cap/\w.heap[b]?=some (.cells arr e (0,0))/\arr.size=cap * sz/\es.length<=cap/\cap<=maxLen /\
   (∀ (i:Nat) u,arr[i]?=some u->u.oneCell'=true)/\RowOf M sz es (arr.toList.take (es.length * sz)):=by
 cases r with
 | rowN h0 hv=>exact .inl ⟨rfl,h0,hv⟩
 | @row _ _ _ b cap arr h0 hv hh hs hlc hm ho hz hc =>
  refine .inr ⟨b,cap,arr,h0,hv,hh,hs,hlc,hm,ho,⟨?_,fun u hu => ?_,hz,fun i e' j d u he hd hu => ?_⟩⟩
  ·have hal:arr.toList.length=cap * sz:=by simp[hs]
   rw[cK,hal,fV (cM _ hlc)]
  ·obtain⟨j,hj,rfl⟩:=cP.1 (cB hu);exact ho j _ (by simp at hj;simp[hj])
  rw[bW]at hu;split at hu
  ·exact hc i e' j d u he hd (by simpa using hu)
  cases hu
theorem Rd.cells {a:Option Addr} {n cp sz:Nat} {es:List PD} (r:Rd M (.slice a n cp) (.sl sz es)) (hmem:∀ b o v,M b o=some v->w.cell? ⟨b,o,none⟩=some v) :
  n=es.length/\n<=cp/\cp<=maxLen/\∃ news,RowOf M sz es news/\(∀ ad,a=some ad->∀ (j:Nat) u,news[j]?=some u->w.cell? (ad.add j)=some u)/\(a=none->n=0):=by
 cases r with
 | @sl _ _ _ _ _ b o hn hnc hcm ha hz hex hrd =>
  refine⟨hn,hnc,hcm, ?_⟩;by_cases h0:n=0
  ·have:es=[]:=bS (by omega);subst this;exact⟨[],RowOf.nil M sz,fun ad _ j u h=>by simp at h,fun _=>h0⟩
  have hb:∀ k,k<n * sz->∃ u,M b (o+k)=some u/\u.oneCell'=true:=by
   intro k hk;have hsz:0<sz:=by
    rcases eP sz with h|h
    ·subst h;simp at hk
    exact h
   have hi:k / sz<es.length:=by rw[<-hn];exact(gR hsz).2 hk
   obtain⟨u,hu,h1⟩:=hex (k / sz) es[k / sz] (k % sz) (by simp[hi]) (eQ _ hsz);refine⟨u, ?_,h1⟩;rw[<-hu];congr 1;have:=Nat.div_add_mod k sz;rw[fK]at this;omega
  refine⟨(List.range (n * sz)).map fun k=>(M b (o+k)).getD undef,⟨by simp[hn],fun u hu => ?_,hz,fun i e j d u he hd hu => ?_⟩,fun ad had j u hu => ?_,fun e=>absurd (ha h0) (by rw[e];simp)⟩
  ·obtain⟨k,hk,rfl⟩:=cO.1 hu;obtain⟨u',hu',h1⟩:=hb k (eL.1 hk);rw[hu'];exact h1
  ·obtain⟨hk,rfl⟩:=wK _ _ _ _ hu;obtain⟨u',hu',_⟩:=hb _ hk;rw[hu'];exact hrd i e j d _ he hd (by rw[<-fM]at hu';exact hu')
  obtain⟨hk,rfl⟩:=wK _ _ _ _ hu;obtain⟨u',hu',_⟩:=hb _ hk;have:=ha h0;rw[had]at this;cases this;rw[jX,hmem _ _ _ hu',hu'];rfl
def zCJ (st:St) (t:Option TK) (x:V):Option (Nat × List PD) :=
 match t,x with
 | some (.sl _),.p (.sl sz es)=>some (sz,es)
 | some (.sl _),.ms id=>match zS id st.H with
  | some (.row _ sz es)=>some (sz,es)
  | _=>none
 | some .str,.p (.str s)=>some (1,s.map fun b => .int .u8 b.toNat)
 | _,_=>none
theorem zZC (M:qY) (b:UInt8):Rd M (.int .u8 b.toNat) (.int .u8 b.toNat):=lA (by simp[kS]) (by have:=b.toNat_lt;simp only[kT];omega)
theorem zXK (hT:TOK P T) (r:Rel c M μ st tmps w) {t:TypeId} {x:V} {sz:Nat} {es:List PD} (h:zCJ st (wC T t) x=some (sz,es)) {u:Value} (hu:RV M μ u x) :
  ∃ news,Src P sz t u es.length news w/\RowOf M sz es news:=by
 unfold zCJ at h;split at h
 ·rename_i el sz' es' hk;cases h;have hd:=hT.sl hk;cases hu with
  | p hu =>
  cases hu with
  | @sl a n cp _ _ b o hn hnc hcm ha hz hex hrd =>
  have hr:Rd M (.slice a n cp) (.sl sz es) := .sl b o hn hnc hcm ha hz hex hrd;obtain⟨h1,_,_,news,hrow,hc,hnil⟩:=hr.cells r.mem;subst h1;refine⟨news, ?_,hrow⟩;cases a with
  | none =>
   have h0:=hnil rfl;have:es=[]:=bS h0;subst this;have:news=[]:=bS (by rw[hrow.len];simp);subst this;exact Src.ofNil w hd cp
  | some ad=>exact Src.ofSlice w hd ad es.length cp news hrow.len (hc ad rfl) hrow.one
 ·rename_i el id hk;have hd:=hT.sl hk;split at h
  ·rename_i e sz' es' hb;cases h;cases hu with
   | ms hval _ =>
   rcases(r.box id _ (zD hb)).cells with⟨rfl,h0,hv⟩|⟨b,cap,arr,h0,hv,hh,hs,hlc,hm,ho,hrow⟩
   ·rw[hv]at hval;subst hval;refine⟨[], ?_,RowOf.nil M sz⟩;exact Src.ofNil w hd 0
   rw[hv]at hval;subst hval;refine⟨_,Src.ofSlice w hd ⟨b,0,none⟩ es.length cap _ hrow.len (fun j u hu => ?_) hrow.one,hrow⟩;rw[bW]at hu;split at hu
   ·rw[jX,dK,zQ hh];simpa using hu
   cases hu
  cases h
 ·rename_i s hk;cases h;have hd:=hT.str hk;cases hu with
  | p hu =>
  cases hu with
  | @str b _ hs hm =>
  refine⟨byteCells b, ?_, ?_⟩
  ·have:=Src.ofString w hd b;simpa[vB hs]using this
  have hbc:byteCells b=s.map fun b=>Value.int .u8 b.toNat:=by unfold byteCells;rw[hs]
  rw[hbc];refine⟨by simp,fun u hu=>by obtain⟨_,_,rfl⟩:=cO.1 hu;rfl,fun i e he => ?_,fun i e j d u he hd' hu => ?_⟩
  ·rw[bG]at he;obtain⟨b',_,rfl⟩:=bF.1 he;rfl
  rw[bG]at he;obtain⟨b',hb',rfl⟩:=bF.1 he;simp only[PD.cells]at hd';have hj0:j=0:=by
   have:=(bB.1 hd').1;simpa using this
  subst hj0;simp at hd';subst hd';rw[eB,cH,bG,hb']at hu;cases hu;exact zZC M b'
 cases h
theorem qAY (w:World) (t tx ty e:TypeId) (i:TypeInfo) (ht:P.underlying t=some (.slice e)) (hi:P.info? e=some i) (g sLen sCap:Nat) (cur:Array Value) (hg:w.heap[g]?=some (.cells cur e (0,0)))
  (x:Value) (n:Nat) (news:List Value) (hs:Src P i.size tx x n news w) (hroom:sLen+n<=sCap) (hfit:sLen * i.size+news.length<=cur.size) :
  (Builtin.append_ #[t,tx] ty #[.slice (some ⟨g,0,none⟩) sLen sCap,x]).run P w =
   .ok (.slice (some ⟨g,0,none⟩) (sLen+n) sCap) (w.setRow g (cur.toList.take (sLen * i.size)++news++cur.toList.drop (sLen * i.size+news.length)).toArray):=by
 have hst:=run_storeCells_at P g (sLen * i.size) e news 0 cur w hg (by simpa using hfit) hs.one;simp only[cH]at hst;rcases hs.kind with⟨e',hk⟩|hk <;> simp[Builtin.append_,run_underlying ht,run_underlying hk,sizeOf,typeInfo,hi,hs.len,hroom,hs.cells,Addr.add_lit,hst]
theorem qPZ (w:World) (t tx ty e:TypeId) (i:TypeInfo) (ht:P.underlying t=some (.slice e)) (hi:P.info? e=some i) (a:Option Addr) (x:Value) (hs:Src P i.size tx x 0 [] w) :
  (Builtin.append_ #[t,tx] ty #[.slice a 0 0,x]).run P w = .ok (.slice a 0 0) w:=by
 rcases hs.kind with⟨e',hk⟩|hk <;> cases a <;> simp[Builtin.append_,run_underlying ht,run_underlying hk,sizeOf,typeInfo,hi,hs.len,hs.cells,storeCells]
theorem qJG {z:Array Value} (h:∀ (i:Nat) u,z[i]?=some u->u.oneCell'=true) (n:Nat):∀ (i:Nat) u,(Builtin.zeroCells z n)[i]?=some u->u.oneCell'=true:=by
 intro i u hu;unfold Builtin.zeroCells at hu;rw[fQ]at hu;obtain⟨k,hk,rfl⟩:=bF.1 hu;have hk':k<n * z.size:=by
  have h1:=cC.1 hk;obtain⟨h2,h3⟩:=h1;simp at h2 h3;omega
 have hz:0<z.size:=by
  rcases eP z.size with h0|h0
  ·rw[h0]at hk';simp at hk'
  exact h0
 have hlt:=eQ k hz;have:z[k % z.size]! = z[k % z.size]:=by simp[hlt]
 rw[this];exact h (k % z.size) _ (by simp[hlt])
theorem qIG (hT:TOK P T) (r:Rel c M μ st tmps w) {t tx ty el:TypeId} (ht:wC T t=some (.sl el)) {ti:TI} (hti:T el=some ti) {zs:List V} (hzs:ti.zero.cells=some zs) (hzl:zs.length=ti.size)
  (hby:0<ti.bytes) {es fs:List PD} {v x:Value} {news:List Value} (hs:Src P ti.size tx x fs.length news w) (hrow:RowOf M ti.size fs news) (hbound:(es.length+fs.length) * ti.bytes<=140737488355328)
  (id:Nat) (hf:st.fresh id=true)
  (hv:(es=[]/\v = .slice none 0 0)\/∃ b cap arr,c.mine b/\(∀ o,M b o=none)/\(∀ j,qM j st.H=true->¬ (μ j).has b)/\v = .slice (some ⟨b,0,none⟩) es.length cap /\
   w.heap[b]?=some (.cells arr el (0,0))/\arr.size=cap * ti.size/\es.length<=cap/\cap<=maxLen/\(∀ (i:Nat) u,arr[i]?=some u->u.oneCell'=true)/\RowOf M ti.size es (arr.toList.take (es.length * ti.size))) :
  ∃ u w' μ',(Builtin.append_ #[t,tx] ty #[v,x]).run P w = .ok u w'/\Rel c M μ' { st with H:=(id,.row el ti.size (es++fs))::st.H } tmps w'/\RV M μ' u (.ms id):=by
 obtain⟨z,hzr,hzc,i,hi,hz,hisz,hiby⟩:=qCI hT hti hzs M μ w;have hd:=hT.sl ht;rw[<-hisz]at hs;have hlen:es.length+fs.length<=140737488355328:=dB (Nat.le_mul_of_pos_right _ hby) hbound;have grow:∀ (a:Option Addr) (cap:Nat) (olds:List Value),(Builtin.firstCells i.size es.length (.slice a es.length cap)).run P w.drew = .ok olds.toArray w.drew->RowOf M ti.size es olds->cap<es.length+fs.length ->
   ∃ u w' μ',(Builtin.append_ #[t,tx] ty #[.slice a es.length cap,x]).run P w = .ok u w'/\Rel c M μ' { st with H:=(id,.row el ti.size (es++fs))::st.H } tmps w'/\RV M μ' u (.ms id):=by
  intro a cap olds hold hro hlt;have hrun:=run_append_grow_src (P:=P) w t tx ty el i z hd hi hz a es.length cap olds hold x fs.length news hs hlt (by omega) (growslice_fits hlt (by rw[hiby];exact hbound));have hge:=grownCap_ge w (es.length+fs.length) cap el;have hcm:=grownCap_le_maxLen w (es.length+fs.length) cap el (by simp[maxLen];omega);refine⟨_,_,upd μ id ⟨some w.heap.size,.slice (some ⟨w.heap.size,0,none⟩) (es.length+fs.length) (grownCap w (es.length+fs.length) cap el),[]⟩,hrun, ?_,.ms (by rw[qK]) rfl⟩;have hall:=hro.append hrow;refine r.newBox hf ((Grows.drew w).trans (Grows.alloc _ _)) (fun b hb=>by cases hb;exact⟨bP _,by simp⟩) ?_ rfl;refine hall.box (b:=w.heap.size) (cap:=grownCap w (es.length+fs.length) cap el) (by rw[qK]) (by rw[qK];simp) (heap_alloc_new w.drew _) ?_ (by simp;exact hge) hcm (fun j u hu => ?_) ?_
  ·have hzz:z.cells.size=ti.size:=by
    have:=hzc.size;omega
   rw[Array.size_append,size_zeroCells,hzz,fX,hall.len,bU,<-dC];congr 1;omega
  ·rw[eX]at hu;split at hu
   ·exact hall.one u (by rw[cN]at hu;exact bH hu)
   exact qJG hzc.one _ _ u hu
  rw[Array.toList_append,dX (by rw[hall.len];exact bP _),bK (by rw[hall.len];exact bP _)]
 rcases hv with⟨rfl,rfl⟩|⟨b,cap,arr,hB,hMb,hnb,rfl,hh,has,hlc,hcm,hone,hro⟩
 ·by_cases hfs:fs=[]
  ·subst hfs;have hnews:news=[]:=bS (by rw[hrow.len];simp);subst hnews;have hrun:=qPZ (P:=P) w t tx ty el i hd hi none x hs;refine⟨_,w,upd μ id ⟨none,.slice none 0 0,[]⟩,hrun,r.adopt hf (fun b hb=>by cases hb) (.rowN (by rw[qK]) (by rw[qK])),.ms (by rw[qK]) rfl⟩
  have h0:0<fs.length:=bV.2 hfs;refine grow none 0 [] ?_ (RowOf.nil M ti.size) (by simpa using h0);simp[Builtin.firstCells]
 by_cases hroom:es.length+fs.length<=cap
 ·have hall:=hro.append hrow;have hnl:=hrow.len;have hfit:es.length * i.size+news.length<=arr.size:=by
   rw[hnl,has,hisz,<-dC];exact cM _ hroom
  have hrun:=qAY (P:=P) w t tx ty el i hd hi b es.length cap arr hh x fs.length news hs hroom hfit;refine⟨_,_,upd μ id ⟨some b,.slice (some ⟨b,0,none⟩) (es.length+fs.length) cap,[]⟩,hrun, ?_,.ms (by rw[qK]) rfl⟩;have hblt:b<w.heap.size:=(cC.1 hh).1;have r1:=r.turn hB hMb hnb (kP w b (arr.toList.take (es.length * i.size)++news++arr.toList.drop (es.length * i.size+news.length)).toArray);refine r1.adopt hf (fun b' hb'=>by cases hb';exact⟨hB,by simpa using hblt,hMb,hnb⟩) ?_;rw[hisz]at hfit ⊢;have hal:(arr.toList.take (es.length * ti.size)).length=es.length * ti.size:=hro.len;refine hall.box (b:=b) (cap:=cap) (by rw[qK]) (by rw[qK];simp) (setRow_heap w b arr _ el (0,0) hh) ?_ (by simp;exact hroom) hcm (fun j u hu => ?_) ?_
  ·simp only[fX,bU,bQ,dY,hal];omega
  ·rw[cN]at hu;have:=bH hu;rcases bL.1 this with h|h
   ·exact hall.one u h
   obtain⟨k,hk,rfl⟩:=cP.1 (cQ h);exact hone k _ (by simp at hk;simp[hk])
  rw[dX (by rw[hall.len];exact bP _),bK (by rw[hall.len];exact bP _)]
 refine grow (some ⟨b,0,none⟩) cap _ ?_ hro (by omega);exact run_firstCells_some (P:=P) w.drew i.size es.length ⟨b,0,none⟩ es.length cap _ (by rw[hro.len,hisz]) (fun j u hu=>by
  rw[bW]at hu;split at hu
  ·rw[jX,dK];show w.cell? ⟨b,j,none⟩=_
   rw[zQ hh];simpa using hu
  cases hu)
end
section
variable {P:Program} {T:Tab} {G:qT}
theorem zBO (hT:TOK P T) {o:Oper} {st st1:St} {args:Array Operand} {tys:Array TypeId} (ho:o.op = .call { callee := .builtin .append,args:=args,argTypes:=tys }) {s x:Operand} {t tx el:TypeId}
  (hargs:args.toList=[s,x]) (htys:tys.toList=[t,tx]) {p q:Prop} {v y:V} (hs:st.arg G s=(p,v)) (hp:p) (hx:st.arg G x=(q,y)) (hq:q)
  (ht:wC T t=some (.sl el)) {ti:TI} (hti:T el=some ti) {zs:List V} (hzs:ti.zero.cells=some zs) (hzl:zs.length=ti.size) (hby:0<ti.bytes) {sz:Nat} {es fs:List PD}
  (hsrc:zCJ st (wC T tx) y=some (sz,fs)) (hsz:ti.size=sz) (hv:(v = .nilsl/\es=[]/\st1=st)\/(∃ id0,v = .ms id0/\zS id0 st.H=some (.row el sz es)/\st1=st.kill id0))
  (hbound:(es.length+fs.length) * ti.bytes<=140737488355328) (id:Nat) (hf:st1.fresh id=true) :
  Yields P G o st (.ms id) { st1 with H:=(id,.row el sz (es++fs))::st1.H }:=by
 intro c M μ tmps w hg r;subst hsz;have ea:=qIF hargs;have et:=qIF htys;subst ea;subst et;have hvv:=qF hg r hs hp;have hyy:=qF hg r hx hq;generalize hu1:Act.eval ⟨tmps,[]⟩ s=u1 at hvv;generalize hu2:Act.eval ⟨tmps,[]⟩ x=u2 at hyy;obtain⟨news,hsr,hrow⟩:=zXK hT r hsrc hyy;have key:∃ u w' μ',(Builtin.append_ #[t,tx] o.type #[u1,u2]).run P w = .ok u w'/\Rel c M μ' { st1 with H:=(id,.row el ti.size (es++fs))::st1.H } tmps w'/\RV M μ' u (.ms id):=by
  rcases hv with⟨rfl,rfl,rfl⟩|⟨id0,rfl,hb,rfl⟩
  ·cases hvv;exact qIG hT r ht hti hzs hzl hby hsr hrow hbound id hf (.inl ⟨rfl,rfl⟩)
  cases hvv with
  | ms hval _ =>
  have hm:=zD hb;have hk:qM id0 st.H=true:=qH.2 ⟨_,hm⟩;rcases(r.box id0 _ hm).cells with⟨rfl,h0,hva⟩|⟨b,cap,arr,h0,hva,hh,has,hlc,hcm,hone,hro⟩
  ·rw[hva]at hval;subst hval;exact qIG hT (r.kill id0) ht hti hzs hzl hby hsr hrow hbound id hf (.inl ⟨rfl,rfl⟩)
  rw[hva]at hval;subst hval;have hown:=r.own id0 b hk (.inl h0);exact qIG hT (r.kill id0) ht hti hzs hzl hby hsr hrow hbound id hf (.inr ⟨b,cap,arr,hown.1,hown.2.2,qTD r hk h0,rfl,hh,has,hlc,hcm,hone,hro⟩)
 obtain⟨u,w',μ',hrun,hr,hu⟩:=key;have e1:(execOp (Act.eval ⟨tmps,[]⟩) o).run P w = .ok (.value u) w':=by
  simp[execOp,ho,resolve,invoke,builtin,hu1,hu2,hrun]
 rw[e1];exact⟨M,μ',hr,hu⟩
theorem zLA {c:Ctx} {M:qY} {μ:Mu} {st:St} {tmps:Array Value} {w:World} (r:Rel c M μ st tmps w) {id:Nat} (hf:st.fresh id=true) {e:TypeId} {sz:Nat} {es:List PD} {arr:Array Value}
  (h:RowOf M sz es arr.toList) (hm:es.length<=maxLen) :
  ∃ μ',Rel c M μ' { st with H:=(id,.row e sz es)::st.H } tmps (w.alloc (.cells arr e))/\RV M μ' (.slice (some ⟨w.heap.size,0,none⟩) es.length es.length) (.ms id):=by
 refine⟨upd μ id ⟨some w.heap.size,.slice (some ⟨w.heap.size,0,none⟩) es.length es.length,[]⟩,r.newBox hf (Grows.alloc w _) (fun b hb => ?_) ?_ rfl,.ms (by rw[qK]) rfl⟩
 ·cases hb;exact⟨bP _,by simp⟩
 have hl:arr.size=es.length * sz:=by have:=h.len;simpa using this
 exact h.box (b:=w.heap.size) (cap:=es.length) (by rw[qK]) (by rw[qK]) (heap_alloc_new w _) hl (bP _) hm (fun i u hu=>h.one u (by simpa using Array.mem_of_getElem? hu))
  (by rw[bK (by simp[hl])])
theorem zED {M:qY} {μ:Mu} {z:Array Value} {zs:List V} (hz:Cells M μ z zs) {e0:PD} {sz:Nat} (hzl:zs.length=sz) (hfit:iP [] zs e0.cells) (n:Nat) :
  RowOf M sz (List.replicate n e0) (madeCells z (n * sz)).toList:=by
 have hzs:z.size=sz:=by rw[hz.size,hzl]
 have hcl:e0.cells.length=sz:=by rw[<-iX hfit,hzl]
 have hget:∀ (k:Nat) (u:Value),(madeCells z (n * sz)).toList[k]?=some u->z[k % sz]?=some u:=by
  intro k u hu;unfold madeCells at hu;rw[gF,bG]at hu;obtain⟨k',hk',rfl⟩:=bF.1 hu;rw[Array.toList_range]at hk';have h1:k<n * sz:=by
   have:=(bB.1 hk').1;simpa using this
  rw[iD h1]at hk';cases hk';have hpos:0<sz:=by
   rcases eP sz with h0|h0
   ·subst h0;simp at h1
   exact h0
  have hlt:k % sz<z.size:=by rw[hzs];exact eQ _ hpos
  rw[hzs];simp[hlt]
 refine⟨by simp[size_madeCells],fun u hu => ?_,fun i e he => ?_,fun i e j d u he hd hu => ?_⟩
 ·obtain⟨k,hk⟩:=dS.1 hu;exact hz.one _ u (hget k u hk)
 ·have:=bH he;rw[(eY.1 this).2];exact hcl
 have:=bH he;rw[(eY.1 this).2]at hd;have hj:j<sz:=by rw[<-hcl];exact(bB.1 hd).1
 have:=hget _ u hu;rw[fK i sz,Nat.mul_add_mod,Nat.mod_eq_of_lt hj]at this;have hx:zs[j]?=some zs[j]:=by simp[hzl,hj]
 exact kZ (hz.get j u _ this hx) (iY hfit hx hd)
theorem zBK (hT:TOK P T) {o:Oper} {st:St} {t el:TypeId} {l cp:Operand} (ho:o.op = .makeSlice t l cp) {p q:Prop} {k k':IntKind} {n:Int} (hl:st.arg G l=(p,.p (.int k n))) (hp:p)
  (hc:st.arg G cp=(q,.p (.int k' n))) (hq:q) (ht:wC T t=some (.sl el)) {ti:TI} (hti:T el=some ti) {zs:List V} (hzs:ti.zero.cells=some zs) (hzl:zs.length=ti.size) {e0:PD} (hfit:iP [] zs e0.cells)
  (hn:0<=n) (hbound:ti.bytes * n<=140737488355328) (hby:0<ti.bytes) (id:Nat) (hf:st.fresh id=true) :
  Yields P G o st (.ms id) { st with H:=(id,.row el ti.size (List.replicate n.toNat e0))::st.H }:=by
 intro c M μ tmps w hg r;obtain⟨z,hzr,hzc,i,hi,hz,hisz,hiby⟩:=qCI hT hti hzs M μ w;have hd:=hT.sl ht;have e1:=(qF hg r hl hp).p_inv;have e2:=(qF hg r hc hq).p_inv;generalize hu1:Act.eval ⟨tmps,[]⟩ l=u1 at e1;generalize hu2:Act.eval ⟨tmps,[]⟩ cp=u2 at e2;cases e1;cases e2;have hn63:n<=140737488355328:=by
  have:1 * n<=ti.bytes * n:=Int.mul_le_mul_of_nonneg_right (by omega) hn;omega
 have hrun:=run_make (P:=P) w t el i z hd hi hz k k' n n hn (iH _) (by rw[hiby];omega) (by omega);have e3:(execOp (Act.eval ⟨tmps,[]⟩) o).run P w = .ok (.value (.slice (some ⟨w.heap.size,0,none⟩) n.toNat n.toNat)) (w.alloc (.cells (madeCells z.cells (n.toNat * i.size)) el)):=by
  simp[execOp,ho,hu1,hu2,hrun]
 rw[e3,hisz];obtain⟨μ',h1,h2⟩:=zLA r hf (e:=el) (zED hzc hzl hfit n.toNat) (by simp[maxLen];omega);exact⟨M,μ',h1,by simpa using h2⟩
def qAF (st:St) (G:qT) (sz:Nat):Nat->List (Nat × Operand)->List PD->Option (Prop × List PD × List PD)
 | _,[],orc=>some (True,[],orc)
 | k,(i,x)::r,orc=>match st.arg G x,orc with
  | (p,v),e::orc'=>match v.cells with
   | some xs=>match qAF st G sz (k+1) r orc' with
    | some (q,es,orc2)=>some (p/\i=k/\iP [] xs e.cells/\xs.length=sz/\q,e::es,orc2)
    | none=>none
   | none=>none
  | _,_=>none
theorem zEU {c:Ctx} {M:qY} {μ:Mu} {st:St} {tmps:Array Value} {w:World} (hg:qAD G c) (r:Rel c M μ st tmps w) (sz:Nat):∀ (parts:List (Nat × Operand)) (k:Nat) (orc:List PD) (q:Prop) (es orc':List PD) (arr:Array Value),
  qAF st G sz k parts orc=some (q,es,orc')->q->(k+parts.length) * sz<=arr.size->(∀ (i:Nat) u,arr[i]?=some u->u.oneCell'=true) ->
  es.length=parts.length/\∃ arr',Instr.fill (fun i=>some (i * sz,sz)) arr (parts.map fun x=>(x.1,Act.eval ⟨tmps,[]⟩ x.2))=some arr'/\arr'.size=arr.size/\(∀ (i:Nat) u,arr'[i]?=some u->u.oneCell'=true) /\
   (∀ j,j<k * sz->arr'[j]?=arr[j]?)/\(∀ (i:Nat) e,es[i]?=some e->e.cells.length=sz)/\(∀ (i:Nat) e (j:Nat) d u,es[i]?=some e->e.cells[j]?=some d->arr'[(k+i) * sz+j]?=some u->Rd M u d)
 | [],k,orc,q,es,orc',arr,h,hq,hsz,hone=>by
  simp only[qAF,Option.some.injEq,Prod.mk.injEq]at h;obtain⟨rfl,rfl,rfl⟩:=h;exact⟨rfl,arr,rfl,rfl,hone,fun _ _=>rfl,fun i e h=>by simp at h,fun i e j d u h=>by simp at h⟩
 | (i,x)::rest,k,orc,q,es,orc',arr,h,hq,hsz,hone=>by
  simp only[qAF]at h;split at h
  ·rename_i p v e orc1 harg;split at h
   ·rename_i xs hxs;split at h
    ·rename_i q2 es2 orc2 hrest;simp only[Option.some.injEq,Prod.mk.injEq]at h;obtain⟨rfl,rfl,rfl⟩:=h;obtain⟨hp,rfl,hfit,hxl,hq2⟩:=hq;have hv:=qF hg r harg hp;have hcu:=Cells.of hv hxs;generalize hu:Act.eval ⟨tmps,[]⟩ x=u at *;obtain⟨f1,f2⟩:=qQP (i * sz) u.cells.toList 0 arr;have efold:(u.cells.zipIdx.foldl (fun(cs:Array Value) (x:Value × Nat)=>match x with|(c,j)=>cs.setIfInBounds (i * sz+j) c) arr) =
       ((u.cells.toList.zipIdx 0).foldl (fun cs (x:Value × Nat)=>cs.setIfInBounds (i * sz+x.2) x.1) arr):=by
      rw[<-Array.foldl_toList];simp
     generalize hnew:((u.cells.toList.zipIdx 0).foldl (fun cs (x:Value × Nat)=>cs.setIfInBounds (i * sz+x.2) x.1) arr)=arr1 at *;have hus:u.cells.toList.length=sz:=by simp[hcu.size,hxl]
     simp only[cH,hus]at f2;have hroom:i * sz+sz<=arr.size:=by
      have h1:(i+1) * sz<=(i+(rest.length+1)) * sz:=cM _ (by omega);simp only[cA]at hsz;rw[dC,eI]at h1;omega
     have hone1:∀ (j:Nat) u',arr1[j]?=some u'->u'.oneCell'=true:=by
      intro j u' hu';rw[f2 j]at hu';split at hu'
      ·exact hcu.one _ u' (by simpa using hu')
      exact hone j u' hu'
     obtain⟨g0,arr',g1,g2,g3,g4,g5,g6⟩:=zEU hg r sz rest (i+1) orc1 q2 es2 orc2 arr1 hrest hq2 (by rw[f1];simp only[cA]at hsz;rw[show i+1+rest.length=i+(rest.length+1) from by omega];exact hsz) hone1;refine⟨by simp[g0],arr', ?_,by rw[g2,f1],g3,fun j hj => ?_,fun j e' he' => ?_,fun j e' l d u' he' hd hu' => ?_⟩
     ·simp only[bA,Instr.fill];rw[hu];rw[bD (by
       have:u.cells.size=sz:=by simpa using hus
       simp only[this];simp;exact hroom)]
      rw[efold];exact g1
     ·rw[g4 j (by rw[dC];omega),f2 j,bD (by omega)]
     ·cases j with
      | zero =>
       simp at he';subst he';rw[<-iX hfit,hxl]
      | succ j=>simp at he';exact g5 j e' he'
     cases j with
     | zero =>
      simp at he';subst he';have hl:l<sz:=by rw[<-hxl,iX hfit];exact(bB.1 hd).1
      rw[cH]at hu';rw[g4 _ (by rw[dC];omega),f2,bE ⟨by omega,by omega,by omega⟩]at hu';rw[show i * sz+l-i * sz=l from by omega]at hu';have hx:xs[l]?=some xs[l]:=by simp[hxl,hl]
      exact kZ (hcu.get l u' _ (by simpa using hu') hx) (iY hfit hx hd)
     | succ j =>
      simp at he';exact g6 j e' l d u' he' hd (by rw[<-hu',show i+1+j=i+(j+1) from by omega])
    cases h
   cases h
  cases h
theorem qKU (hT:TOK P T) {o:Oper} {st:St} {t el:TypeId} {n:Nat} {parts:Array (Nat × Operand)} (ho:o.op = .buildSlice t n parts) (hn:parts.toList.length=n) (ht:wC T t=some (.sl el)) {ti:TI} (hti:T el=some ti)
  {zs:List V} (hzs:ti.zero.cells=some zs) (hzl:zs.length=ti.size) {orc orc' es:List PD} {q:Prop} (hpt:qAF st G ti.size 0 parts.toList orc=some (q,es,orc')) (hq:q) (hb:n * ti.size<=16777216)
  (hn2:n<=16777216) (id:Nat) (hf:st.fresh id=true):Yields P G o st (.ms id) { st with H:=(id,.row el ti.size es)::st.H }:=by
 intro c M μ tmps w hg r;obtain⟨z,hzr,hzc,i,hi,hz,hisz,hiby⟩:=qCI hT hti hzs M μ w;have hd:=hT.sl ht;have hone:∀ (j:Nat) u,(madeCells z.cells (n * ti.size))[j]?=some u->u.oneCell'=true:=by
  intro j u hu;unfold madeCells at hu;rw[fQ]at hu;obtain⟨k',hk',rfl⟩:=bF.1 hu;have hzs':z.cells.size=ti.size:=by rw[hzc.size,hzl]
  have hpos:0<ti.size:=by
   rcases eP ti.size with h0|h0
   ·rw[h0]at hk';simp at hk'
   exact h0
  have hlt:k' % z.cells.size<z.cells.size:=eQ _ (by omega);have:z.cells[k' % z.cells.size]! = z.cells[k' % z.cells.size]:=by simp[hlt]
  rw[this];exact hzc.one (k' % z.cells.size) _ (by simp[hlt])
 obtain⟨g0,arr',g1,g2,g3,_,g5,g6⟩:=zEU (tmps:=tmps) hg r ti.size parts.toList 0 orc q es orc' (madeCells z.cells (n * ti.size)) hpt hq (by rw[size_madeCells,dK,hn];exact bP _) hone;rw[size_madeCells]at g2;have e3:(execOp (Act.eval ⟨tmps,[]⟩) o).run P w = .ok (.value (.slice (some ⟨w.heap.size,0,none⟩) n n)) (w.alloc (.cells arr' el)):=by
  have hso:(sizeOf el).run P w = .ok ti.size w:=by simp[sizeOf,typeInfo,hi,hisz]
  have hmc:((Array.range (n * ti.size)).map (z.cells[· % z.cells.size]!))=madeCells z.cells (n * ti.size):=rfl;have hrun:(Instr.buildSlice t n (parts.map fun x=>(x.1,Act.eval ⟨tmps,[]⟩ x.2))).run P w = .ok (.slice (some ⟨w.heap.size,0,none⟩) n n) (w.alloc (.cells arr' el)):=by
   unfold Instr.buildSlice;rw[Sem.run_bind,run_underlying hd];simp only[Result.andThen_ok];rw[Sem.run_bind,hso];simp only[Result.andThen_ok];rw[bD (by omega)];by_cases h0:n * ti.size=0
   ·have hm0:madeCells z.cells (n * ti.size) = #[]:=by simp[madeCells,h0]
    rw[hm0]at g1;have hr0:(Array.range 0).map (fun x=>(#[]:Array Value)[x % (#[]:Array Value).size]!) = #[]:=by apply Array.ext';simp
    simp only[h0,if_true,Sem.run_bind,Sem.run_pure,Result.andThen_ok,gF];rw[hr0,g1];simp[newRow]
   rw[bD h0];simp only[Sem.run_bind,hzr,Sem.run_pure,Result.andThen_ok,hmc,gF];rw[g1];simp[newRow]
  simp only[execOp,ho];rw[Sem.run_bind];simp only[hrun];rfl
 rw[e3];have hlen:es.length=n:=by rw[g0,hn]
 have hrow:RowOf M ti.size es arr'.toList:=⟨by simp[g2,hlen],fun u hu=>by
  obtain⟨k,hk,rfl⟩:=cP.1 hu;exact g3 k _ (by simp at hk;simp[hk]),g5,fun i e j d u he hd hu=>g6 i e j d u he hd (by rw[dK];simpa using hu)⟩
 obtain⟨μ',h1,h2⟩:=zLA r hf (e:=el) hrow (by simp[maxLen];omega);rw[hlen]at h2;exact⟨M,μ',h1,h2⟩
end
end Go.Proofs.YtgcbapchinideaaGreatDoor.Sy
