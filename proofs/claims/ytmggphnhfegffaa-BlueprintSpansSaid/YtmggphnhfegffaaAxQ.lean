import Derived.Test.YtmggphnhfegffaaAxP
set_option linter.unusedVariables false
set_option linter.unusedSimpArgs false
namespace Go.AX

theorem RepEs.flat {w A A' b sz} {es : List (List D)} {o : Nat} (hf : ∀ e ∈ es, ∀ d ∈ e, D.flat d = true) (h : RepEs w A b sz o es) : RepEs w A' b sz o es := by
  obtain ⟨h1, vs, h2, h3, h4⟩ := h.values
  refine RepEs.of_values h1 (RepDs.flat (fun d hd => ?_) h3) h4
  obtain ⟨e, he, hd⟩ := List.mem_flatten.1 hd
  exact hf e he d hd

/-- A callee without objects; nothing is lent to it: what it returns may be a part of what it got. -/
theorem sem_callPure {P n d fo args ts t p e g E H f caps r u args'} (hd : ∀ i, d = some i → i < n) (hf : evalA E fo = .fn f caps)
    (hc : ACalls P f args' [] r u) (hv : AV.views H (args.toList.map (evalA E) ++ caps) = args') (hp : AV.viewPs H (args.toList.map (evalA E) ++ caps)) (hi : AV.idsL (args.toList.map (evalA E) ++ caps) = [])
    (hu : arrsOnly u) (hr : ∀ i ∈ r.ids, i ∈ u.map (·.1)) (hfr : ∀ i, i ∈ u.map (·.1) → Fresh i E H) :
    OSem P n ⟨d, .call { callee := .value fo, args := args, argTypes := ts }, t, p, e, g⟩ E H r u :=
  OSem.call hd hf hc fun A β a w hcfg => by
    have e0 : (fun b => A b ∨ ∃ i ∈ ([] : List Nat), H i ≠ none ∧ β i = some b) = A := by funext b; simp
    have hg : hget ([] : HL) = fun _ => none := rfl
    refine ⟨A, fun _ => none, fun vs h => ?_, ?_, fun w' A' β' v k1 k2 k3 => ?_⟩
    · have := hcfg.views_rep [] _ vs h hp (by rw [hi]; simp)
      rw [e0, hv] at this
      exact this
    · exact ⟨fun id cs h => by simp [hget] at h, fun id T sz es h => by simp [hget] at h, fun i j b h => by simp [hget] at h, fun i b h => by simp [hget] at h, hcfg.heap.bound⟩
    · have hsame : ∀ b : Nat, b < w.heap.size → w'.heap[b]? = w.heap[b]? := fun b hb => k3.same b hb fun i hi => by simp [hget] at hi
      have hown : ∀ i b, hget u i ≠ none → β' i = some b → w.heap.size ≤ b := fun i b hi hb => by
        rcases k3.own i b hi hb with h1 | ⟨j, hj, _⟩
        · exact h1
        · simp [hget] at hj
      obtain ⟨c1, c2⟩ := hcfg.join (A2 := A') k3.mono (fun b hb => by
        rcases k3.new b hb with h1 | h1 | ⟨i, h1, _⟩
        · exact .inl h1
        · exact .inr h1
        · simp [hget] at h1) k2.bound k2.sepA k2 hu (fun _ _ _ _ _ _ h => h) hsame k3.size k3.os k3.tape k3.output hown hfr
      refine ⟨A', _, c1, ?_, c2⟩
      refine RepV.stable (fun _ h => h) (fun _ _ => rfl) _ _ (fun i hi o' ho' => ?_) k1
      have hm := hr i hi
      rw [updF_get, if_pos hm] at ho'
      refine ⟨o', ho', ?_⟩
      cases o' with
      | box _ => simp only [Keep]; rw [if_pos hm]
      | arr _ _ _ => exact ⟨rfl, rfl, Nat.le_refl _, fun _ => ⟨by simp only [hm, if_true], fun _ _ => rfl⟩⟩

/-- A callee without objects, arrays lent to it: what it returns holds no slice but new ones. -/
theorem sem_callLent {P n d fo args ts t p e g E H f caps r u args'} (hd : ∀ i, d = some i → i < n) (hf : evalA E fo = .fn f caps)
    (hc : ACalls P f args' [] r u) (hv : AV.views H (args.toList.map (evalA E) ++ caps) = args') (hp : AV.viewPs H (args.toList.map (evalA E) ++ caps))
    (hfl : r.flat = true) (hu : arrsOnly u) (hfu : flatObjs u) (hr : ∀ i ∈ r.ids, i ∈ u.map (·.1)) (hfr : ∀ i, i ∈ u.map (·.1) → Fresh i E H) :
    OSem P n ⟨d, .call { callee := .value fo, args := args, argTypes := ts }, t, p, e, g⟩ E H r u :=
  OSem.call hd hf hc fun A β a w hcfg => by
    refine ⟨fun b => A b ∨ ∃ i ∈ AV.idsL (args.toList.map (evalA E) ++ caps), H i ≠ none ∧ β i = some b, fun _ => none, fun vs h => ?_, ?_, fun w' A' β' v k1 k2 k3 => ?_⟩
    · have := hcfg.views_rep _ _ vs h hp (fun i h => h)
      rw [hv] at this
      exact this
    · refine ⟨fun id cs h => by simp [hget] at h, fun id T sz es h => by simp [hget] at h, fun i j b h => by simp [hget] at h, fun i b h => by simp [hget] at h, fun b hb => ?_⟩
      rcases hb with hb | ⟨i, _, h1, h2⟩
      · exact hcfg.heap.bound b hb
      · exact hcfg.heap.lt h1 h2
    · have hsame : ∀ b : Nat, b < w.heap.size → w'.heap[b]? = w.heap[b]? := fun b hb => k3.same b hb fun i hi => by simp [hget] at hi
      have hown : ∀ i b, hget u i ≠ none → β' i = some b → w.heap.size ≤ b := fun i b hi hb => by
        rcases k3.own i b hi hb with h1 | ⟨j, hj, _⟩
        · exact h1
        · simp [hget] at hj
      obtain ⟨c1, c2⟩ := hcfg.join (A2 := A) (A' := A') (β' := β') (fun _ h => h) (fun b hb => .inl hb) (fun b hb => Nat.lt_of_lt_of_le (hcfg.heap.bound b hb) k3.size) (fun i b hi hb hA => by
        have := hown i b hi hb
        have := hcfg.heap.bound b hA
        omega) k2 hu (fun i T sz es b hi h => RepEs.flat (flatObjs_get hfu i T sz es hi) h) hsame k3.size k3.os k3.tape k3.output hown hfr
      refine ⟨A, _, c1, ?_, c2⟩
      refine RepV.stable (fun _ h => h) (fun _ _ => rfl) _ _ (fun i hi o' ho' => ?_) (RepV.flat (A' := A) _ _ hfl k1)
      have hm := hr i hi
      rw [updF_get, if_pos hm] at ho'
      refine ⟨o', ho', ?_⟩
      cases o' with
      | box _ => simp only [Keep]; rw [if_pos hm]
      | arr _ _ _ => exact ⟨rfl, rfl, Nat.le_refl _, fun _ => ⟨by simp only [hm, if_true], fun _ _ => rfl⟩⟩

/-! ### a callee with some of the objects -/
mutual
/-- What is passed: the objects of T as they are, other arrays as data (they are frozen then). -/
def AV.viewX (T : List Nat) (H : HF) : AV → AV
  | .arr id off len => if id ∈ T then .arr id off len else .d (avD H (.arr id off len))
  | .nils => .d (.sl [])
  | .agg cs => .agg (AV.viewXs T H cs)
  | .tup cs => .tup (AV.viewXs T H cs)
  | .fn f caps => .fn f (AV.viewXs T H caps)
  | x => x
def AV.viewXs (T : List Nat) (H : HF) : List AV → List AV
  | [] => []
  | x :: r => x.viewX T H :: AV.viewXs T H r
end
mutual
def AV.viewXP (T : List Nat) (H : HF) : AV → Prop
  | .arr id off len => id ∈ T ∨ avDp H (.arr id off len)
  | .agg cs => AV.viewXPs T H cs
  | .tup cs => AV.viewXPs T H cs
  | .fn _ caps => AV.viewXPs T H caps
  | .box id _ => id ∈ T
  | .elt id _ _ _ => id ∈ T
  | _ => True
def AV.viewXPs (T : List Nat) (H : HF) : List AV → Prop
  | [] => True
  | x :: r => x.viewXP T H ∧ AV.viewXPs T H r
end

mutual
theorem CfgF.viewX_rep {n A β E H a w} (h : CfgF n A β E H a w) (T ids : List Nat) (Hc : HF) (hT : ∀ i ∈ T, Hc i = H i) : ∀ (x : AV) (v : Value), RepV w A β H x v → x.viewXP T H → (∀ i ∈ x.ids, i ∉ T → i ∈ ids) →
    RepV w (fun b => A b ∨ ∃ i ∈ ids, H i ≠ none ∧ β i = some b) β Hc (x.viewX T H) v
  | .any, v, _, _, _ => by simp only [AV.viewX, RepV]
  | .d x, v, hx, _, _ => by
    simp only [AV.viewX, RepV] at hx ⊢
    exact RepD.stable (fun _ h => .inl h) (fun _ _ => rfl) _ _ hx
  | .nils, v, hx, _, _ => by
    simp only [AV.viewX, RepV, RepD] at hx ⊢
    obtain ⟨a, rfl⟩ := hx
    exact ⟨a, 0, by simp, by simp, trivial, by simp⟩
  | .nilp, v, hx, _, _ => by simpa only [AV.viewX, RepV] using hx
  | .ref cs, v, hx, _, _ => by
    simp only [AV.viewX, RepV] at hx ⊢
    obtain ⟨b, o, e, hA, hr⟩ := hx
    exact ⟨b, o, e, .inl hA, RepCs.stable (fun _ h => .inl h) (fun _ _ => rfl) b rfl o cs hr⟩
  | .box id o, v, hx, hp, _ => by
    simp only [AV.viewXP] at hp
    simp only [AV.viewX, RepV, hT id hp] at hx ⊢
    exact hx
  | .elt id i o m, v, hx, hp, _ => by
    simp only [AV.viewXP] at hp
    simp only [AV.viewX, RepV, hT id hp] at hx ⊢
    exact hx
  | .arr id off len, v, hx, hp, hi => by
    simp only [AV.viewX]
    by_cases hm : id ∈ T
    · rw [if_pos hm]
      simp only [RepV, hT id hm] at hx ⊢
      exact hx
    · rw [if_neg hm]
      simp only [RepV]
      simp only [AV.viewXP, hm, false_or] at hp
      exact h.avD_rep ids hx hp fun i hi' => hi i hi' (by simp only [AV.ids, List.mem_singleton] at hi'; rw [hi']; exact hm)
  | .fn f caps, v, hx, hp, hi => by
    simp only [AV.viewX, RepV] at hx ⊢
    obtain ⟨cs, e, hc⟩ := hx
    exact ⟨cs, e, CfgF.viewXs_rep h T ids Hc hT caps cs.toList hc (by simpa only [AV.viewXP] using hp) (by simpa only [AV.ids] using hi)⟩
  | .agg cs, v, hx, hp, hi => by
    simp only [AV.viewX, RepV] at hx ⊢
    obtain ⟨vs, e, hc⟩ := hx
    exact ⟨vs, e, CfgF.viewXs_rep h T ids Hc hT cs vs.toList hc (by simpa only [AV.viewXP] using hp) (by simpa only [AV.ids] using hi)⟩
  | .tup cs, v, hx, hp, hi => by
    simp only [AV.viewX, RepV] at hx ⊢
    obtain ⟨vs, e, hc⟩ := hx
    exact ⟨vs, e, CfgF.viewXs_rep h T ids Hc hT cs vs.toList hc (by simpa only [AV.viewXP] using hp) (by simpa only [AV.ids] using hi)⟩
theorem CfgF.viewXs_rep {n A β E H a w} (h : CfgF n A β E H a w) (T ids : List Nat) (Hc : HF) (hT : ∀ i ∈ T, Hc i = H i) : ∀ (xs : List AV) (vs : List Value), RepVs w A β H xs vs → AV.viewXPs T H xs → (∀ i ∈ AV.idsL xs, i ∉ T → i ∈ ids) →
    RepVs w (fun b => A b ∨ ∃ i ∈ ids, H i ≠ none ∧ β i = some b) β Hc (AV.viewXs T H xs) vs
  | [], vs, hx, _, _ => by simpa only [AV.viewXs, RepVs] using hx
  | x :: r, vs, hx, hp, hi => by
    simp only [AV.viewXs, RepVs] at hx ⊢
    obtain ⟨v, t, e, h1, h2⟩ := hx
    simp only [AV.viewXPs] at hp
    exact ⟨v, t, e, CfgF.viewX_rep h T ids Hc hT x v h1 hp.1 (fun i hm => hi i (by simp [AV.idsL, hm])), CfgF.viewXs_rep h T ids Hc hT r t h2 hp.2 (fun i hm => hi i (by simp [AV.idsL, hm]))⟩
end

/-- The callee's objects go back into the caller's heap. -/
theorem CfgF.rejoin {n A β E H a w} (h : CfgF n A β E H a w) {T : List Nat} {hc h' : HL} (hT : ∀ i, hget hc i = if i ∈ T then H i else none) (hTl : ∀ i ∈ T, H i ≠ none) {w' A' β'}
    (hr : HRel w' A' β' (hget h')) (ht : Trans w A β (hget hc) w' A' β' (hget h')) (hcl : ∀ i o, hget h' i = some o → ∀ j ∈ o.ids, j ∈ h'.map (·.1))
    (hfr : ∀ i, i ∈ h'.map (·.1) → i ∉ T → Fresh i E H) :
    CfgF n A' (fun i => if i ∈ T ∨ i ∈ h'.map (·.1) then β' i else β i) E (fun i => if i ∈ T ∨ i ∈ h'.map (·.1) then hget h' i else H i) a w' ∧
    Trans w A β H w' A' (fun i => if i ∈ T ∨ i ∈ h'.map (·.1) then β' i else β i) (fun i => if i ∈ T ∨ i ∈ h'.map (·.1) then hget h' i else H i) := by
  have hcT : ∀ i, hget hc i ≠ none → i ∈ T ∧ H i ≠ none := fun i hi => by
    rw [hT] at hi
    by_cases hm : i ∈ T
    · rw [if_pos hm] at hi; exact ⟨hm, hi⟩
    · rw [if_neg hm] at hi; exact absurd rfl hi
  have hs : ∀ b, A b → w'.heap[b]? = w.heap[b]? := fun b hb => ht.same b (h.heap.bound b hb) fun i hi hb' => h.heap.sepA i b (hcT i hi).2 hb' hb
  have hold : ∀ i b, i ∉ T → H i ≠ none → β i = some b → w'.heap[b]? = w.heap[b]? := fun i b hi h1 hb => ht.same b (h.heap.lt h1 hb) fun j hj hb' => by
    have := h.heap.inj i j b h1 (hcT j hj).2 hb hb'
    exact hi (this ▸ (hcT j hj).1)
  have hown : ∀ i b, hget h' i ≠ none → β' i = some b → w.heap.size ≤ b ∨ ∃ j, j ∈ T ∧ H j ≠ none ∧ β j = some b := fun i b hi hb => by
    rcases ht.own i b hi hb with h1 | ⟨j, hj, hb'⟩
    · exact .inl h1
    · exact .inr ⟨j, (hcT j hj).1, (hcT j hj).2, hb'⟩
  have idok : ∀ i o', (if i ∈ T ∨ i ∈ h'.map (·.1) then hget h' i else H i) = some o' → (∃ o, H i = some o ∧ Keep w w' β (fun i => if i ∈ T ∨ i ∈ h'.map (·.1) then β' i else β i) i o o') ∨ Fresh i E H := fun i o' ho' => by
    by_cases hm : i ∈ T ∨ i ∈ h'.map (·.1)
    · rw [if_pos hm] at ho'
      by_cases hiT : i ∈ T
      · cases ho : H i with
        | none => exact absurd ho (hTl i hiT)
        | some o =>
          have := ht.keep i o o' (by rw [hT, if_pos hiT]; exact ho) ho'
          refine .inl ⟨o, rfl, ?_⟩
          cases o <;> cases o' <;> simp only [Keep, hm, if_true] at this ⊢ <;> exact this
      · exact .inr (hfr i (hget_mem ho') hiT)
    · rw [if_neg hm] at ho'
      refine .inl ⟨o', ho', ?_⟩
      cases o' with
      | box _ => simp only [Keep]; rw [if_neg hm]
      | arr _ _ _ => exact ⟨rfl, rfl, Nat.le_refl _, fun _ => ⟨by simp only [hm, if_false], fun b hb => blkSize_of_heap (hold i b (fun h => hm (.inl h)) (by simp [ho']) hb)⟩⟩
  have cls : ∀ i, (if i ∈ T ∨ i ∈ h'.map (·.1) then hget h' i else H i) ≠ none → (hget h' i ≠ none ∧ (i ∈ T ∨ i ∈ h'.map (·.1))) ∨ (H i ≠ none ∧ i ∉ T ∧ i ∉ h'.map (·.1)) := fun i hi => by
    by_cases hm : i ∈ T ∨ i ∈ h'.map (·.1)
    · rw [if_pos hm] at hi; exact .inl ⟨hi, hm⟩
    · rw [if_neg hm] at hi; exact .inr ⟨hi, fun h => hm (.inl h), fun h => hm (.inr h)⟩
  have hh : HRel w' A' (fun i => if i ∈ T ∨ i ∈ h'.map (·.1) then β' i else β i) (fun i => if i ∈ T ∨ i ∈ h'.map (·.1) then hget h' i else H i) := by
    refine ⟨fun id cs hi => ?_, fun id S sz es hi => ?_, fun i j b hi hj hb1 hb2 => ?_, fun i b hi hb => ?_, hr.bound⟩
    · by_cases hm : id ∈ T ∨ id ∈ h'.map (·.1)
      · simp only [hm, if_true] at hi
        obtain ⟨b, c, S, hb, hcc, hrr⟩ := hr.box id cs hi
        refine ⟨b, c, S, by simp only [hm, if_true]; exact hb, hcc, RepVs.stable (fun _ h => h) (fun _ _ => rfl) _ _ (fun j hj o1 ho1 => ?_) hrr⟩
        have hjm : j ∈ h'.map (·.1) := hcl id _ hi j hj
        simp only [hjm, or_true, if_true] at ho1
        refine ⟨o1, ho1, ?_⟩
        cases o1 with
        | box _ => simp only [Keep]; rw [if_pos (.inr hjm)]
        | arr _ _ _ => exact ⟨rfl, rfl, Nat.le_refl _, fun _ => ⟨by simp only [hjm, or_true, if_true], fun _ _ => rfl⟩⟩
      · simp only [hm, if_false] at hi
        obtain ⟨b, c, S, hb, hcc, hrr⟩ := h.heap.box id cs hi
        refine ⟨b, c, S, by simp only [hm, if_false]; exact hb, by rw [hold id b (fun h => hm (.inl h)) (by simp [hi]) hb]; exact hcc, RepVs.stable ht.mono hs _ _ (fun j hj o1 ho1 => ?_) hrr⟩
        rcases idok j o1 ho1 with h1 | h1
        · exact h1
        · exact absurd hj (h1.2.2 id _ hi)
    · by_cases hm : id ∈ T ∨ id ∈ h'.map (·.1)
      · simp only [hm, if_true] at hi ⊢
        exact hr.arr id S sz es hi
      · simp only [hm, if_false] at hi ⊢
        obtain ⟨h1, h2⟩ := h.heap.arr id S sz es hi
        refine ⟨h1, h2.imp (fun h => h) fun ⟨b, c, hb, hcc, h3, h4⟩ => ?_⟩
        have hbb := hold id b (fun h => hm (.inl h)) (by simp [hi]) hb
        exact ⟨b, c, hb, by rw [hbb]; exact hcc, h3, RepEs.stable ht.mono hs b sz hbb 0 es h4⟩
    · rcases cls i hi with ⟨h1, m1⟩ | ⟨h1, m1, m1'⟩ <;> rcases cls j hj with ⟨h2, m2⟩ | ⟨h2, m2, m2'⟩
      · simp only [m1, m2, if_true] at hb1 hb2
        exact hr.inj i j b h1 h2 hb1 hb2
      · simp only [m1, m2, m2', or_self, if_true, if_false] at hb1 hb2
        rcases hown i b h1 hb1 with h3 | ⟨k, hk, h3, h4⟩
        · have := h.heap.lt h2 hb2; omega
        · have := h.heap.inj k j b h3 h2 h4 hb2
          exact absurd (this ▸ hk) m2
      · simp only [m1, m2, m1', or_self, if_true, if_false] at hb1 hb2
        rcases hown j b h2 hb2 with h3 | ⟨k, hk, h3, h4⟩
        · have := h.heap.lt h1 hb1; omega
        · have := h.heap.inj k i b h3 h1 h4 hb1
          exact absurd (this ▸ hk) m1
      · simp only [m1, m1', m2, m2', or_self, if_false] at hb1 hb2
        exact h.heap.inj i j b h1 h2 hb1 hb2
    · rcases cls i hi with ⟨h1, m1⟩ | ⟨h1, m1, m1'⟩
      · simp only [m1, if_true] at hb
        exact hr.sepA i b h1 hb
      · simp only [m1, m1', or_self, if_false] at hb
        intro hA
        rcases ht.new b hA with h2 | h2 | ⟨j, h2, h3⟩
        · exact h.heap.sepA i b h1 hb h2
        · have := h.heap.lt h1 hb; omega
        · have := h.heap.inj j i b (hcT j h2).2 h1 h3 hb
          exact m1 (this ▸ (hcT j h2).1)
  refine ⟨h.update ht.mono hs idok hh, ⟨ht.size, ht.os, ht.tape, ht.output, fun b hb hn => ht.same b hb fun i hi => hn i (hcT i hi).2, ht.mono, fun b hb => ?_, fun i b hi hb => ?_, fun i o o' ho ho' => ?_⟩⟩
  · rcases ht.new b hb with h2 | h2 | ⟨j, h2, h3⟩
    · exact .inl h2
    · exact .inr (.inl h2)
    · exact .inr (.inr ⟨j, (hcT j h2).2, h3⟩)
  · rcases cls i hi with ⟨h1, m1⟩ | ⟨h1, m1, m1'⟩
    · simp only [m1, if_true] at hb
      rcases hown i b h1 hb with h3 | ⟨k, hk, h3, h4⟩
      · exact .inl h3
      · exact .inr ⟨k, h3, h4⟩
    · simp only [m1, m1', or_self, if_false] at hb
      exact .inr ⟨i, h1, hb⟩
  · rcases idok i o' ho' with ⟨o2, h1, h2⟩ | h1
    · rw [ho] at h1; cases h1; exact h2
    · rw [h1.1] at ho; cases ho

/-- The callee's part of the heap, each object as the caller has it. -/
def subOf (H : HF) : HL → Prop
  | [] => True
  | (i, some o) :: r => H i = some o ∧ subOf H r
  | (_, none) :: _ => False
theorem subOf_get {H : HF} : ∀ {h : HL}, subOf H h → (∀ i, hget h i = if i ∈ h.map (·.1) then H i else none) ∧ ∀ i ∈ h.map (·.1), H i ≠ none
  | [], _ => by simp [hget]
  | (j, some o) :: r, h => by
    obtain ⟨h1, h2⟩ := h
    obtain ⟨h3, h4⟩ := subOf_get h2
    refine ⟨fun i => ?_, fun i hi => ?_⟩
    · simp only [hget, List.map_cons, List.mem_cons]
      by_cases e : i = j
      · subst e; simp [h1]
      · rw [if_neg e, h3 i]
        by_cases hm : i ∈ r.map (·.1)
        · rw [if_pos hm, if_pos (.inr hm)]
        · rw [if_neg hm, if_neg (by rintro (h | h); exact e h; exact hm h)]
    · simp only [List.map_cons, List.mem_cons] at hi
      rcases hi with rfl | hi
      · rw [h1]; simp
      · exact h4 i hi
  | (j, none) :: r, h => by simp only [subOf] at h

/-- No object of the list names another than those of the list. -/
def closedIn (names : List Nat) : HL → Prop
  | [] => True
  | (_, some o) :: r => (∀ j ∈ o.ids, j ∈ names) ∧ closedIn names r
  | (_, none) :: r => closedIn names r
theorem closedIn_get {names : List Nat} : ∀ {h : HL}, closedIn names h → ∀ i o, hget h i = some o → ∀ j ∈ o.ids, j ∈ names
  | [], _, i, o, h => by simp [hget] at h
  | (k, some o1) :: r, hc, i, o, h => by
    simp only [hget] at h
    split at h
    · cases h; exact hc.1
    · exact closedIn_get hc.2 i o h
  | (k, none) :: r, hc, i, o, h => by
    simp only [hget] at h
    split at h
    · cases h
    · exact closedIn_get (h := r) hc i o h

theorem hget_nones (i : Nat) : ∀ l : List Nat, hget (l.map fun i => (i, none)) i = none
  | [] => rfl
  | x :: r => by
    simp only [List.map_cons, hget]
    split
    · rfl
    · exact hget_nones i r

theorem sem_callSub {P n d fo args ts t p e g E H f caps hc r h' args'} {fz : List Nat} (hd : ∀ i, d = some i → i < n) (hf : evalA E fo = .fn f caps)
    (hcall : ACalls P f args' hc r h') (hsub : subOf H hc) (hv : AV.viewXs (hc.map (·.1)) H (args.toList.map (evalA E) ++ caps) = args') (hp : AV.viewXPs (hc.map (·.1)) H (args.toList.map (evalA E) ++ caps))
    (hfz : ∀ i ∈ AV.idsL (args.toList.map (evalA E) ++ caps), i ∉ hc.map (·.1) → i ∈ fz) (hfz' : ∀ i ∈ fz, i ∉ hc.map (·.1) ∧ i ∉ h'.map (·.1))
    (hcl0 : closedIn (hc.map (·.1)) hc) (hcl : closedIn (h'.map (·.1)) h') (hr : ∀ i ∈ r.ids, i ∈ h'.map (·.1)) (hfr : ∀ i, i ∈ h'.map (·.1) → i ∉ hc.map (·.1) → Fresh i E H) :
    OSem P n ⟨d, .call { callee := .value fo, args := args, argTypes := ts }, t, p, e, g⟩ E H r (h' ++ (hc.map fun x => (x.1, none)) ++ fz.map fun i => (i, none)) :=
  OSem.call hd hf hcall fun A β a w hcfg => by
    obtain ⟨hT, hTl⟩ := subOf_get hsub
    obtain ⟨hz1, hz2⟩ := hcfg.freezes fz
    have hT' : ∀ i, hget hc i = if i ∈ hc.map (·.1) then dead H fz i else none := fun i => by
      rw [hT i]
      by_cases hm : i ∈ hc.map (·.1)
      · rw [if_pos hm, if_pos hm]
        have : i ∉ fz := fun h => (hfz' i h).1 hm
        simp only [dead, this, if_false]
      · rw [if_neg hm, if_neg hm]
    have hTl' : ∀ i ∈ hc.map (·.1), dead H fz i ≠ none := fun i hi => by
      have : i ∉ fz := fun h => (hfz' i h).1 hi
      simp only [dead, this, if_false]
      exact hTl i hi
    have hsubok : ∀ i o', hget hc i = some o' → dead H fz i = some o' := fun i o' ho' => by
      rw [hT' i] at ho'
      split at ho'
      · exact ho'
      · cases ho'
    refine ⟨fun b => A b ∨ ∃ i ∈ fz, H i ≠ none ∧ β i = some b, β, fun vs h => ?_, ?_, fun w' A' β' v k1 k2 k3 => ?_⟩
    · have := hcfg.viewXs_rep (hc.map (·.1)) fz (hget hc) (fun i hi => by rw [hT i, if_pos hi]) _ vs h hp hfz
      rw [hv] at this
      exact this
    · refine ⟨fun id cs hi => ?_, fun id S sz es hi => hz1.heap.arr id S sz es (hsubok _ _ hi), fun i j b hi hj => ?_, fun i b hi => ?_, hz1.heap.bound⟩
      · obtain ⟨b, c, S, hb, hcc, hrr⟩ := hz1.heap.box id cs (hsubok _ _ hi)
        exact ⟨b, c, S, hb, hcc, RepVs.stable (fun _ h => h) (fun _ _ => rfl) _ _ (fun j _ o1 ho1 => ⟨o1, hsubok j o1 ho1, Keep.refl w β j o1⟩) hrr⟩
      · refine hz1.heap.inj i j b ?_ ?_
        · cases ho : hget hc i with
          | none => exact absurd ho hi
          | some o => rw [hsubok i o ho]; simp
        · cases ho : hget hc j with
          | none => exact absurd ho hj
          | some o => rw [hsubok j o ho]; simp
      · refine hz1.heap.sepA i b ?_
        cases ho : hget hc i with
        | none => exact absurd ho hi
        | some o => rw [hsubok i o ho]; simp
    · obtain ⟨c1, c2⟩ := hz1.rejoin hT' hTl' k2 k3 (closedIn_get hcl) (fun i h1 h2 => (hfr i h1 h2).dead fz)
      have heq : updF H (h' ++ (hc.map fun x => (x.1, none)) ++ fz.map fun i => (i, none)) = fun i => if i ∈ hc.map (·.1) ∨ i ∈ h'.map (·.1) then hget h' i else dead H fz i := by
        funext i
        rw [updF_get]
        have hga : ∀ (x y : HL), hget (x ++ y) i = if i ∈ x.map (·.1) then hget x i else hget y i := fun x y => by rw [hget_append, updF_get]
        have hnn : ∀ l : List Nat, hget (l.map fun i => (i, none)) i = none := hget_nones i
        have hnn2 : hget (hc.map fun x => (x.1, (none : Option AObj))) i = none := by
          have := hnn (hc.map (·.1)); simpa [Function.comp_def] using this
        by_cases h1 : i ∈ h'.map (·.1)
        · have hm : i ∈ ((h' ++ (hc.map fun (x : Nat × Option AObj) => (x.1, none)) ++ fz.map fun i => (i, none) : HL)).map (·.1) := by simp only [List.map_append, List.mem_append]; exact .inl (.inl h1)
          rw [if_pos hm, if_pos (.inr h1), hga, hga, if_pos h1, if_pos (by simp only [List.map_append, List.mem_append]; exact .inl h1)]
        · have hh' : hget h' i = none := by
            cases ho : hget h' i with
            | none => rfl
            | some o => exact absurd (hget_mem ho) h1
          by_cases h2 : i ∈ hc.map (·.1)
          · have hm : i ∈ ((h' ++ (hc.map fun (x : Nat × Option AObj) => (x.1, none)) ++ fz.map fun i => (i, none) : HL)).map (·.1) := by
              simp only [List.map_append, List.mem_append]
              refine .inl (.inr ?_)
              simpa [Function.comp_def] using h2
            rw [if_pos hm, if_pos (.inl h2), hh', hga, hga, if_neg h1, hnn2, hnn]
            simp
          · rw [if_neg (show ¬ (i ∈ hc.map (·.1) ∨ i ∈ h'.map (·.1)) by rintro (h | h); exact h2 h; exact h1 h)]
            simp only [dead]
            by_cases h3 : i ∈ fz
            · have hm : i ∈ ((h' ++ (hc.map fun (x : Nat × Option AObj) => (x.1, none)) ++ fz.map fun i => (i, none) : HL)).map (·.1) := by
                simp only [List.map_append, List.mem_append]
                refine .inr ?_
                simpa [Function.comp_def] using h3
              rw [if_pos hm, if_pos h3, hga, hga, if_neg h1, hnn2, hnn]
              simp
            · have hm : i ∉ ((h' ++ (hc.map fun (x : Nat × Option AObj) => (x.1, none)) ++ fz.map fun i => (i, none) : HL)).map (·.1) := by
                simp only [List.map_append, List.mem_append]
                rintro ((h | h) | h)
                · exact h1 h
                · exact h2 (by simpa [Function.comp_def] using h)
                · exact h3 (by simpa [Function.comp_def] using h)
              rw [if_neg hm, if_neg h3]
      rw [heq]
      refine ⟨A', _, c1, ?_, hz2.comp c2 fun i h1 h2 => ?_⟩
      · refine RepV.stable (fun _ h => h) (fun _ _ => rfl) _ _ (fun i hi o' ho' => ?_) k1
        have hm := hr i hi
        simp only [hm, or_true, if_true] at ho'
        refine ⟨o', ho', ?_⟩
        cases o' with
        | box _ => simp only [Keep]; rw [if_pos (.inr hm)]
        | arr _ _ _ => exact ⟨rfl, rfl, Nat.le_refl _, fun _ => ⟨by simp only [hm, or_true, if_true], fun _ _ => rfl⟩⟩
      · have hiz : i ∈ fz := by
          simp only [dead] at h2
          by_cases hz : i ∈ fz
          · exact hz
          · rw [if_neg hz] at h2; exact absurd h2 h1
        have h3 := hfz' i hiz
        rw [if_neg (by rintro (h | h); exact h3.1 h; exact h3.2 h)]
        exact h2
end Go.AX
