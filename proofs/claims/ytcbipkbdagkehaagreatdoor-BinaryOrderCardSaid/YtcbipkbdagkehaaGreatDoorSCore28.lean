import Derived.Test.YtcbipkbdagkehaaGreatDoorSCore27
namespace Go.Proofs.YtcbipkbdagkehaaGreatDoor.Sy
open Go
set_option linter.unusedSimpArgs false
set_option linter.unusedVariables false
section
variable {P : Program} {T : Tab} {G : Glob} {st : St}
theorem y_field (hT : TOK P T) {o : Oper} {t ft i off : Nat} {x : Operand} {p : Prop} {cs : List PD} {d : PD} {ti tf : TI} {fs : List (Nat × Nat)} (ho : o.op = .field t x i) (ht : T t = some ti) (hk : ti.k = .st fs) (hf : fs[i]? = some (off, ft))
  (htf : T ft = some tf) (hag : tf.k.agg = false) (ha : st.arg G x = (p, .p (.agg cs))) (hp : p) (hd : cs[off]? = some d) : Yields P G o st (.p d) st := by
 obtain ⟨i0, d0, _, hd0, hd2, _⟩ := hT.get ht
 rw [hk] at hd2
 obtain ⟨l, rfl, hl⟩ := TK.of_st hd2
 subst hl
 obtain ⟨ie, de, _, hde, hdek, _⟩ := hT.get htf
 rw [List.getElem?_map] at hf
 obtain ⟨fd, hfd, hfe⟩ := Option.map_eq_some_iff.1 hf
 cases hfe
 rw [Array.getElem?_toList] at hfd
 intro c M μ tmps w hg r
 have h1 := (arg_sound hg r ha hp).p_inv
 generalize hu : Act.eval ⟨tmps, []⟩ x = u at h1
 cases h1 with
 | @agg arr _ h2 h3 h4 =>
 have hlt : fd.offset < cs.length := (List.getElem?_eq_some_iff.1 hd).1
 obtain ⟨v, hv⟩ : ∃ v, arr[fd.offset]? = some v := ⟨arr[fd.offset]'(by omega), by simp⟩
 have hpa : (part fd.type arr fd.offset).run P w = .ok v w := by
  unfold part
  rw [Sem.run_bind, run_isAgg hde, Result.andThen_ok, hdek, hag]
  simp [hv]
 have e1 : (execOp (Act.eval ⟨tmps, []⟩) o).run P w = .ok (.value v) w := by
  simp [execOp, ho, hu, Instr.field, run_underlying hd0, hfd, asAgg, hpa]
 rw [e1]
 exact ⟨M, μ, r, .p (h4 _ _ _ hv hd)⟩
end
end Go.Proofs.YtcbipkbdagkehaaGreatDoor.Sy
