import Derived.Test.YtmggphnhfegffaaAxZa
set_option linter.unusedVariables false
set_option linter.unusedSimpArgs false
namespace Go.AX

theorem ids_box (cs : List AV) : (AObj.box cs).ids = AV.idsL cs := rfl
theorem ids_arr (T sz es) : (AObj.arr T sz es).ids = [] := rfl

/-- A result that lies in a variable in memory. -/
theorem load_run {P : Program} {n A β E H a w} (hc : CfgF n A β E H a w) {x : Nat} {t id o : Nat} (hx : E x = .box id o) (h : (aLoad P t (.box id o) H).pre) :
    ∃ v, (do loadVar t (← asAddr (a.tmps.getD x undef))).run P w = .ok v w ∧ RepV w A β H (aLoad P t (.box id o) H).res v := by
  have h2 := hc.env x
  rw [hx] at h2
  simp only [aLoad] at h ⊢
  split at h
  · rename_i cs ho
    simp only [RepV, ho] at h2
    obtain ⟨b, hb, e1⟩ := h2
    obtain ⟨b', c, T, hb', hcell, hr⟩ := hc.heap.box id cs ho
    rw [hb] at hb'; cases hb'
    have := run_loadVar (P := P) (t := t) (b := b) (o := o) h.1 h.2.1 (hr.drop o) (fun j v hj => by
      rw [List.getElem?_drop] at hj
      simpa [World.cell?, hcell] using hj) (by simp; omega)
    obtain ⟨v, h3, h4⟩ := this
    refine ⟨v, by simp [e1, asAddr, h3], ?_⟩
    simpa only [cut, List.drop_zero, ho] using h4
  · exact h.elim

theorem ACalls.of_cell {P : Program} {f : FuncId} {args : List AV} {h : HL} {fn : Func} {c : Code} {n : Nat} (Q : AV → HL → Prop) (nb : Nat) (x t : Nat) (hf : P.funcs[f]? = some fn) (hb : fn.body = some c)
    (hn : (fn.name == "runtime.NumGoroutine") = false) (hr : fn.results = #[.cell x t]) (hnt : fn.ntmps = n) (hsz : args.length ≤ n) (hnb : ∀ i, hget h i ≠ none → i < nb)
    (hs : Walk P n nb [.code c] (fun s' => ∃ id o, eget s'.e x = .box id o ∧ (aLoad P t (.box id o) (hget s'.h)).pre ∧ ∃ h', subH (hget s'.h) h' ∧ Q (aLoad P t (.box id o) (hget s'.h)).res h') ⟨argE 0 args, h⟩) : ∃ r h', Q r h' ∧ ACalls P f args h r h' := by
  obtain ⟨s', ⟨id, o, hx, hp, h', h0, h1⟩, h2⟩ := hs
  refine ⟨_, h', h1, ?_⟩
  subst hnt
  refine ⟨⟨fn, hf, by simp [hb], hn⟩, fun A β w vs hv hh => ?_⟩
  obtain ⟨hlen, hget⟩ := hv.get2
  have hlen' : vs.size = args.length := by simpa using hlen.symm
  intro cs
  let b : Frame := { (default : Frame) with fn := f, kind := .normal }
  have henter : Frame.enter P f vs .normal = b.at { tmps := vs ++ Array.replicate (fn.ntmps - vs.size) undef, defers := [] } [.code c] := by
    simp [Frame.enter, Frame.at, hf, hb, b]
  have hcfg : CfgF fn.ntmps A β (eget (argE 0 args)) (AX.hget h) { tmps := vs ++ Array.replicate (fn.ntmps - vs.size) undef, defers := [] } w := by
    refine ⟨by simp; omega, rfl, fun t => ?_, hh⟩
    rw [argE_get]
    simp only [Nat.not_lt_zero, if_false, Nat.sub_zero]
    by_cases ht : t < vs.size
    · have h1 : (vs ++ Array.replicate (fn.ntmps - vs.size) undef).getD t undef = vs[t] := by
        rw [Array.getD_eq_getD_getElem?, Array.getElem?_append_left ht]; simp [ht]
      rw [h1]
      obtain ⟨x, hx, hrx⟩ := hget t vs[t] (by simp [ht])
      rw [hx]; exact hrx
    · have : args[t]? = none := by rw [List.getElem?_eq_none_iff]; omega
      rw [this]; simp only [Option.getD_none, RepV]
  obtain ⟨a', w', t', s2, g1, rfl, A', β', g4, g5⟩ := h2 ⟨w, A, β, AX.hget h⟩ hnb _ w ⟨A, β, hcfg, Trans.refl _ _ _ _⟩ b cs
  obtain ⟨v, g8, g9⟩ := load_run g4 hx hp
  obtain ⟨g6, g7⟩ := g4.weaken (E' := eget s2.e) (fun _ => .inr rfl) (subH_get h0)
  have hres : (results fn a'.tmps).run P w' = .ok v w' := by
    simp only [results, hr]
    simp at g8 ⊢
    simp [g8]
  have g9' : RepV w' A' β' (AX.hget h') (aLoad P t (.box id o) (AX.hget s2.h)).res v := RepV.stable (fun _ h => h) (fun _ _ => rfl) _ _ (fun i _ o' ho' => by
    rcases subH_get h0 i with h3 | h3
    · rw [h3] at ho'; cases ho'
    · exact ⟨o', by rw [← h3]; exact ho', Keep.refl _ _ _ _⟩) g9
  rw [henter]
  refine ⟨.returned v, w', _, ⟨_, A', β', rfl, g9', g6.heap, g5.comp g7 fun i _ hi => ?_⟩, g1, rfl, rfl, g4.defers, rfl, fn, hf, hres⟩
  rcases subH_get h0 i with h3 | h3
  · exact h3
  · rw [h3]; exact hi
end Go.AX
