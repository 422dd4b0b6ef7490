import Derived.Test.YtmggphnhfegffaaAxO
set_option linter.unusedVariables false
set_option linter.unusedSimpArgs false
namespace Go.AX

/-- The contract of a function: called with these arguments in a heap of these objects it returns this value and leaves these objects. -/
def ACalls (P : Program) (f : FuncId) (args : List AV) (h : HL) (r : AV) (h' : HL) : Prop :=
  (∃ fn, P.funcs[f]? = some fn ∧ fn.body.isNone = false ∧ (fn.name == "runtime.NumGoroutine") = false) ∧
  ∀ A β w (vs : Array Value), RepVs w A β (hget h) args vs.toList → HRel w A β (hget h) →
    Calls P f vs w (fun e w' => ∃ v A' β', e = .returned v ∧ RepV w' A' β' (hget h') r v ∧ HRel w' A' β' (hget h') ∧ Trans w A β (hget h) w' A' β' (hget h'))

theorem run_call {P : Program} {w : World} {ρ : Operand → Value} {d fo args ts t p e g} {f : FuncId} {caps : Array Value} (hf : ρ fo = .func (.func f) #[] caps)
    (hb : ∃ fn, P.funcs[f]? = some fn ∧ fn.body.isNone = false ∧ (fn.name == "runtime.NumGoroutine") = false) :
    (execOp ρ ⟨d, .call { callee := .value fo, args := args, argTypes := ts }, t, p, e, g⟩).run P w = .ok (.enter f (args.map ρ ++ caps)) w := by
  obtain ⟨fn, h1, h2, h3⟩ := hb
  simp only [execOp, resolve, hf, Deferred.ofValue, Sem.run_bind, Sem.run_pure, Result.andThen_ok, invoke, callFunc, run_program, h1, h3, h2, Bool.false_eq_true, if_false, Array.empty_append]

/-- From the contract to the operation: what is left is to put the callee's heap back into the caller's. -/
theorem OSem.call {P n d fo args ts t p e g E H f caps h r0 h' r u} (hd : ∀ i, d = some i → i < n) (hf : evalA E fo = .fn f caps) {args' : List AV} (hc : ACalls P f args' h r0 h')
    (hin : ∀ A β a w, CfgF n A β E H a w → ∃ A1 β1, (∀ vs, RepVs w A β H (args.toList.map (evalA E) ++ caps) vs → RepVs w A1 β1 (hget h) args' vs) ∧ HRel w A1 β1 (hget h) ∧
      ∀ w' A' β' v, RepV w' A' β' (hget h') r0 v → HRel w' A' β' (hget h') → Trans w A1 β1 (hget h) w' A' β' (hget h') →
        ∃ A2 β2, CfgF n A2 β2 E (updF H u) a w' ∧ RepV w' A2 β2 (updF H u) r v ∧ Trans w A β H w' A2 β2 (updF H u)) :
    OSem P n ⟨d, .call { callee := .value fo, args := args, argTypes := ts }, t, p, e, g⟩ E H r u := by
  intro A β a w hcfg
  have h1 := hcfg.eval fo
  rw [hf] at h1
  simp only [RepV] at h1
  obtain ⟨cs, e1, hcs⟩ := h1
  obtain ⟨A1, β1, g1, g2, g3⟩ := hin A β a w hcfg
  have hargs := evalL_rep hcfg args.toList
  have hall := g1 _ (hargs.append hcs)
  have hcall := hc.2 A1 β1 w (args.map a.eval ++ cs) (by simpa using hall) g2
  simp only [Oper.wp, run_call e1 hc.1, Oper.upon]
  refine Calls.mono hcall fun en w' => ?_
  rintro ⟨v, A', β', rfl, k1, k2, k3⟩
  obtain ⟨A2, β2, m1, m2, m3⟩ := g3 w' A' β' v k1 k2 k3
  exact ⟨A2, β2, m1.put hd m2, m3⟩

/-- The callee gets the whole heap. -/
theorem sem_callAll {P n d fo args ts t p e g E H f caps h r h' u} (hd : ∀ i, d = some i → i < n) (hf : evalA E fo = .fn f caps) (hc : ACalls P f (args.toList.map (evalA E) ++ caps) h r h')
    (hH : hget h = H) (hu : updF H u = hget h') (hfr : ∀ i, H i = none → hget h' i ≠ none → Fresh i E H) :
    OSem P n ⟨d, .call { callee := .value fo, args := args, argTypes := ts }, t, p, e, g⟩ E H r u :=
  OSem.call hd hf hc fun A β a w hcfg => by
    refine ⟨A, β, fun vs h => by rw [hH]; exact h, by rw [hH]; exact hcfg.heap, fun w' A' β' v k1 k2 k3 => ?_⟩
    rw [hu]
    rw [hH] at k3
    refine ⟨A', β', hcfg.update k3.mono (fun b hb => k3.same b (hcfg.heap.bound b hb) fun i hi hb' => hcfg.heap.sepA i b hi hb' hb) (fun i o' ho' => ?_) k2, k1, k3⟩
    cases ho : H i with
    | none => exact .inr (hfr i ho (by simp [ho']))
    | some o => exact .inl ⟨o, rfl, k3.keep i o o' ho ho'⟩

/-! ### a callee that needs no object: arrays are lent to it as data -/
def D.flat : D → Bool
  | .sl _ => false
  | _ => true
mutual
def AV.flat : AV → Bool
  | .d x => x.flat
  | .agg cs => AV.flatL cs
  | .tup cs => AV.flatL cs
  | .arr _ _ _ => true
  | .any => true
  | _ => false
def AV.flatL : List AV → Bool
  | [] => true
  | x :: r => x.flat && AV.flatL r
end

mutual
def AV.view (H : HF) : AV → AV
  | .arr id off len => .d (avD H (.arr id off len))
  | .nils => .d (.sl [])
  | .agg cs => .agg (AV.views H cs)
  | .tup cs => .tup (AV.views H cs)
  | .fn f caps => .fn f (AV.views H caps)
  | x => x
def AV.views (H : HF) : List AV → List AV
  | [] => []
  | x :: r => x.view H :: AV.views H r
end
mutual
/-- The ids are those of whole arrays alone. -/
def AV.viewP (H : HF) : AV → Prop
  | .arr id off len => avDp H (.arr id off len)
  | .agg cs => AV.viewPs H cs
  | .tup cs => AV.viewPs H cs
  | .fn _ caps => AV.viewPs H caps
  | .box _ _ => False
  | .elt _ _ _ _ => False
  | _ => True
def AV.viewPs (H : HF) : List AV → Prop
  | [] => True
  | x :: r => x.viewP H ∧ AV.viewPs H r
end

mutual
theorem CfgF.view_rep {n A β E H a w} (h : CfgF n A β E H a w) (ids : List Nat) : ∀ (x : AV) (v : Value), RepV w A β H x v → x.viewP H → (∀ i ∈ x.ids, i ∈ ids) →
    RepV w (fun b => A b ∨ ∃ i ∈ ids, H i ≠ none ∧ β i = some b) (fun _ => none) (fun _ => none) (x.view H) v
  | .any, v, _, _, _ => by simp only [AV.view, RepV]
  | .d x, v, hx, _, _ => by
    simp only [AV.view, RepV] at hx ⊢
    exact RepD.stable (fun _ h => .inl h) (fun _ _ => rfl) _ _ hx
  | .nils, v, hx, _, _ => by
    simp only [AV.view, RepV, RepD] at hx ⊢
    obtain ⟨a, rfl⟩ := hx
    exact ⟨a, 0, by simp, by simp, trivial, by simp⟩
  | .nilp, v, hx, _, _ => by simpa only [AV.view, RepV] using hx
  | .ref cs, v, hx, _, _ => by
    simp only [AV.view, RepV] at hx ⊢
    obtain ⟨b, o, e, hA, hr⟩ := hx
    exact ⟨b, o, e, .inl hA, RepCs.stable (fun _ h => .inl h) (fun _ _ => rfl) b rfl o cs hr⟩
  | .box id o, v, _, hp, _ => by simp only [AV.viewP] at hp
  | .elt id i o m, v, _, hp, _ => by simp only [AV.viewP] at hp
  | .arr id off len, v, hx, hp, hi => by
    simp only [AV.view, RepV]
    exact h.avD_rep ids hx (by simpa only [AV.viewP] using hp) hi
  | .fn f caps, v, hx, hp, hi => by
    simp only [AV.view, RepV] at hx ⊢
    obtain ⟨cs, e, hc⟩ := hx
    exact ⟨cs, e, CfgF.views_rep h ids caps cs.toList hc (by simpa only [AV.viewP] using hp) (by simpa only [AV.ids] using hi)⟩
  | .agg cs, v, hx, hp, hi => by
    simp only [AV.view, RepV] at hx ⊢
    obtain ⟨vs, e, hc⟩ := hx
    exact ⟨vs, e, CfgF.views_rep h ids cs vs.toList hc (by simpa only [AV.viewP] using hp) (by simpa only [AV.ids] using hi)⟩
  | .tup cs, v, hx, hp, hi => by
    simp only [AV.view, RepV] at hx ⊢
    obtain ⟨vs, e, hc⟩ := hx
    exact ⟨vs, e, CfgF.views_rep h ids cs vs.toList hc (by simpa only [AV.viewP] using hp) (by simpa only [AV.ids] using hi)⟩
theorem CfgF.views_rep {n A β E H a w} (h : CfgF n A β E H a w) (ids : List Nat) : ∀ (xs : List AV) (vs : List Value), RepVs w A β H xs vs → AV.viewPs H xs → (∀ i ∈ AV.idsL xs, i ∈ ids) →
    RepVs w (fun b => A b ∨ ∃ i ∈ ids, H i ≠ none ∧ β i = some b) (fun _ => none) (fun _ => none) (AV.views H xs) vs
  | [], vs, hx, _, _ => by simpa only [AV.views, RepVs] using hx
  | x :: r, vs, hx, hp, hi => by
    simp only [AV.views, RepVs] at hx ⊢
    obtain ⟨v, t, e, h1, h2⟩ := hx
    simp only [AV.viewPs] at hp
    exact ⟨v, t, e, CfgF.view_rep h ids x v h1 hp.1 (fun i hm => hi i (by simp [AV.idsL, hm])), CfgF.views_rep h ids r t h2 hp.2 (fun i hm => hi i (by simp [AV.idsL, hm]))⟩
end

mutual
theorem RepV.flat {w A A' β H} : ∀ (x : AV) (v : Value), x.flat = true → RepV w A β H x v → RepV w A' β H x v
  | .any, v, _, _ => by simp only [RepV]
  | .d x, v, hf, h => by
    cases x with
    | sl es => simp [AV.flat, D.flat] at hf
    | _ => simpa only [RepV, RepD] using h
  | .arr id off len, v, _, h => by simpa only [RepV] using h
  | .agg cs, v, hf, h => by
    simp only [RepV] at h ⊢
    obtain ⟨vs, e, hc⟩ := h
    exact ⟨vs, e, RepVs.flat cs vs.toList (by simpa only [AV.flat] using hf) hc⟩
  | .tup cs, v, hf, h => by
    simp only [RepV] at h ⊢
    obtain ⟨vs, e, hc⟩ := h
    exact ⟨vs, e, RepVs.flat cs vs.toList (by simpa only [AV.flat] using hf) hc⟩
  | .nils, v, hf, _ => by simp [AV.flat] at hf
  | .nilp, v, hf, _ => by simp [AV.flat] at hf
  | .ref _, v, hf, _ => by simp [AV.flat] at hf
  | .box _ _, v, hf, _ => by simp [AV.flat] at hf
  | .elt _ _ _ _, v, hf, _ => by simp [AV.flat] at hf
  | .fn _ _, v, hf, _ => by simp [AV.flat] at hf
theorem RepVs.flat {w A A' β H} : ∀ (xs : List AV) (vs : List Value), AV.flatL xs = true → RepVs w A β H xs vs → RepVs w A' β H xs vs
  | [], vs, _, h => by simpa only [RepVs] using h
  | x :: r, vs, hf, h => by
    simp only [RepVs] at h ⊢
    obtain ⟨v, t, e, h1, h2⟩ := h
    simp only [AV.flatL, Bool.and_eq_true] at hf
    exact ⟨v, t, e, RepV.flat x v hf.1 h1, RepVs.flat r t hf.2 h2⟩
end

theorem RepDs.flat {w A A'} : ∀ {ds : List D} {vs : List Value}, (∀ d ∈ ds, d.flat = true) → RepDs w A ds vs → RepDs w A' ds vs
  | [], vs, _, h => by simpa only [RepDs] using h
  | d :: r, vs, hf, h => by
    simp only [RepDs] at h ⊢
    obtain ⟨v, t, e, h1, h2⟩ := h
    refine ⟨v, t, e, ?_, RepDs.flat (fun d hd => hf d (by simp [hd])) h2⟩
    have := hf d (by simp)
    cases d with
    | sl es => simp [D.flat] at this
    | _ => simpa only [RepD] using h1

/-- New objects of a callee: arrays alone. -/
def arrsOnly : HL → Prop
  | [] => True
  | (_, some (.arr _ _ _)) :: r => arrsOnly r
  | _ => False
def flatObjs : HL → Prop
  | [] => True
  | (_, some (.arr _ _ es)) :: r => (∀ e ∈ es, ∀ d ∈ e, D.flat d = true) ∧ flatObjs r
  | _ => False

theorem arrsOnly_get : ∀ {u : HL}, arrsOnly u → ∀ i o, hget u i = some o → ∃ T sz es, o = .arr T sz es
  | [], _, i, o, h => by simp [hget] at h
  | (j, some (.arr T sz es)) :: r, hu, i, o, h => by
    simp only [hget] at h
    split at h
    · cases h; exact ⟨T, sz, es, rfl⟩
    · exact arrsOnly_get (by simpa only [arrsOnly] using hu) i o h
  | (j, none) :: r, hu, _, _, _ => by simp only [arrsOnly] at hu
  | (j, some (.box _)) :: r, hu, _, _, _ => by simp only [arrsOnly] at hu
theorem flatObjs_get : ∀ {u : HL}, flatObjs u → ∀ i T sz es, hget u i = some (.arr T sz es) → ∀ e ∈ es, ∀ d ∈ e, D.flat d = true
  | [], _, i, T, sz, es, h => by simp [hget] at h
  | (j, some (.arr T0 sz0 es0)) :: r, hu, i, T, sz, es, h => by
    simp only [flatObjs] at hu
    simp only [hget] at h
    split at h
    · cases h; exact hu.1
    · exact flatObjs_get hu.2 i T sz es h
  | (j, none) :: r, hu, _, _, _, _, _ => by simp only [flatObjs] at hu
  | (j, some (.box _)) :: r, hu, _, _, _, _, _ => by simp only [flatObjs] at hu
theorem hget_mem : ∀ {u : HL} {i : Nat} {o : AObj}, hget u i = some o → i ∈ u.map (·.1)
  | [], i, o, h => by simp [hget] at h
  | (j, x) :: r, i, o, h => by
    simp only [hget] at h
    split at h
    · rename_i e; subst e; simp
    · exact List.mem_cons_of_mem _ (hget_mem h)
theorem updF_get (H : HF) : ∀ (u : HL) (i : Nat), updF H u i = if i ∈ u.map (·.1) then hget u i else H i
  | [], i => by simp [updF]
  | (j, x) :: r, i => by
    simp only [updF, hget, List.map_cons, List.mem_cons]
    by_cases e : i = j
    · simp [e]
    · rw [if_neg e, if_neg e, updF_get H r i]
      by_cases hm : i ∈ r.map (·.1)
      · rw [if_pos hm, if_pos (.inr hm)]
      · rw [if_neg hm, if_neg (by rintro (h | h); exact e h; exact hm h)]

/-- New objects join the heap. -/
theorem CfgF.join {n A β E H a w} (h : CfgF n A β E H a w) {w' A' β' u A2} (hA2 : ∀ b, A b → A2 b) (hA2' : ∀ b, A2 b → A b ∨ w.heap.size ≤ b) (hA2b : ∀ b, A2 b → b < w'.heap.size)
    (hA2s : ∀ i b, hget u i ≠ none → β' i = some b → ¬ A2 b)
    (hr : HRel w' A' β' (hget u)) (hu : arrsOnly u) (hrep : ∀ i T sz es b, hget u i = some (.arr T sz es) → RepEs w' A' b sz 0 es → RepEs w' A2 b sz 0 es)
    (ht : ∀ b : Nat, b < w.heap.size → w'.heap[b]? = w.heap[b]?) (hsz : w.heap.size ≤ w'.heap.size) (hos : w'.os = w.os) (htp : w'.tape = w.tape) (hout : w'.output = w.output)
    (hown : ∀ i b, hget u i ≠ none → β' i = some b → w.heap.size ≤ b) (hfr : ∀ i, i ∈ u.map (·.1) → Fresh i E H) :
    CfgF n A2 (fun i => if i ∈ u.map (·.1) then β' i else β i) E (updF H u) a w' ∧
    Trans w A β H w' A2 (fun i => if i ∈ u.map (·.1) then β' i else β i) (updF H u) := by
  have hs : ∀ b, A b → w'.heap[b]? = w.heap[b]? := fun b hb => ht b (h.heap.bound b hb)
  have hold : ∀ i, i ∉ u.map (·.1) → updF H u i = H i := fun i hi => by rw [updF_get, if_neg hi]
  have hnew : ∀ i, i ∈ u.map (·.1) → updF H u i = hget u i := fun i hi => by rw [updF_get, if_pos hi]
  have idok : ∀ i o', updF H u i = some o' → (∃ o, H i = some o ∧ Keep w w' β (fun i => if i ∈ u.map (·.1) then β' i else β i) i o o') ∨ Fresh i E H := fun i o' ho' => by
    by_cases hi : i ∈ u.map (·.1)
    · exact .inr (hfr i hi)
    · rw [hold i hi] at ho'
      refine .inl ⟨o', ho', ?_⟩
      cases o' with
      | box _ => simp only [Keep]; rw [if_neg hi]
      | arr _ _ _ => exact ⟨rfl, rfl, Nat.le_refl _, fun _ => ⟨by simp only [hi, if_false], fun b hb => blkSize_of_heap (ht b (h.heap.lt (by simp [ho']) hb))⟩⟩
  have hh : HRel w' A2 (fun i => if i ∈ u.map (·.1) then β' i else β i) (updF H u) := by
    refine ⟨fun id cs hi => ?_, fun id T sz es hi => ?_, fun i j b hi hj hb1 hb2 => ?_, fun i b hi hb => ?_, hA2b⟩
    · by_cases hm : id ∈ u.map (·.1)
      · rw [hnew id hm] at hi
        obtain ⟨_, _, _, e⟩ := arrsOnly_get hu id _ hi
        cases e
      · rw [hold id hm] at hi
        obtain ⟨b, c, T, hb, hc, hr1⟩ := h.heap.box id cs hi
        refine ⟨b, c, T, by simp only [hm, if_false]; exact hb, by rw [ht b (Array.getElem?_eq_some_iff.1 hc).1]; exact hc, RepVs.stable hA2 hs _ _ (fun i hi' o1 ho1 => ?_) hr1⟩
        rcases idok i o1 ho1 with h1 | h1
        · exact h1
        · exact absurd hi' (h1.2.2 id _ hi)
    · by_cases hm : id ∈ u.map (·.1)
      · rw [hnew id hm] at hi
        obtain ⟨h1, h2⟩ := hr.arr id T sz es hi
        refine ⟨h1, ?_⟩
        simp only [hm, if_true]
        exact h2.imp (fun h => h) fun ⟨b, c, hb, hc, h3, h4⟩ => ⟨b, c, hb, hc, h3, hrep id T sz es b hi h4⟩
      · rw [hold id hm] at hi
        obtain ⟨h1, h2⟩ := h.heap.arr id T sz es hi
        refine ⟨h1, ?_⟩
        simp only [hm, if_false]
        exact h2.imp (fun h => h) fun ⟨b, c, hb, hc, h3, h4⟩ => ⟨b, c, hb, by rw [ht b (Array.getElem?_eq_some_iff.1 hc).1]; exact hc, h3, RepEs.stable hA2 hs b sz (ht b (Array.getElem?_eq_some_iff.1 hc).1) 0 es h4⟩
    · by_cases h1 : i ∈ u.map (·.1) <;> by_cases h2 : j ∈ u.map (·.1)
      · rw [hnew i h1] at hi; rw [hnew j h2] at hj
        simp only [h1, h2, if_true] at hb1 hb2
        exact hr.inj i j b hi hj hb1 hb2
      · rw [hnew i h1] at hi; rw [hold j h2] at hj
        simp only [h1, h2, if_true, if_false] at hb1 hb2
        have := hown i b hi hb1
        have := h.heap.lt hj hb2
        omega
      · rw [hold i h1] at hi; rw [hnew j h2] at hj
        simp only [h1, h2, if_true, if_false] at hb1 hb2
        have := hown j b hj hb2
        have := h.heap.lt hi hb1
        omega
      · rw [hold i h1] at hi; rw [hold j h2] at hj
        simp only [h1, h2, if_false] at hb1 hb2
        exact h.heap.inj i j b hi hj hb1 hb2
    · by_cases hm : i ∈ u.map (·.1)
      · rw [hnew i hm] at hi
        simp only [hm, if_true] at hb
        exact hA2s i b hi hb
      · rw [hold i hm] at hi
        simp only [hm, if_false] at hb
        intro hA
        rcases hA2' b hA with h1 | h1
        · exact h.heap.sepA i b hi hb h1
        · have := h.heap.lt hi hb; omega
  refine ⟨h.update hA2 hs idok hh, ⟨hsz, hos, htp, hout, fun b hb _ => ht b hb, hA2, fun b hb => (hA2' b hb).imp (fun h => h) .inl, fun i b hi hb => ?_, fun i o o' ho ho' => ?_⟩⟩
  · by_cases hm : i ∈ u.map (·.1)
    · rw [hnew i hm] at hi
      simp only [hm, if_true] at hb
      exact .inl (hown i b hi hb)
    · rw [hold i hm] at hi
      simp only [hm, if_false] at hb
      exact .inr ⟨i, hi, hb⟩
  · rcases idok i o' ho' with ⟨o2, h1, h2⟩ | h1
    · rw [ho] at h1; cases h1; exact h2
    · rw [h1.1] at ho; cases ho
end Go.AX
