import Derived.Test.YtmggphnhfegffaaAxB
set_option linter.unusedVariables false
set_option linter.unusedSimpArgs false
namespace Go.AX

def Fresh (i : Nat) (E : EF) (H : HF) : Prop := H i = none ∧ (∀ t, i ∉ (E t).ids) ∧ (∀ j o, H j = some o → i ∉ o.ids)

theorem CfgF.update {n A β E H a w A' β' H' w'} (h : CfgF n A β E H a w) (hA : ∀ b, A b → A' b) (hs : ∀ b, A b → w'.heap[b]? = w.heap[b]?)
    (hid : ∀ i o', H' i = some o' → (∃ o, H i = some o ∧ Keep w w' β β' i o o') ∨ Fresh i E H) (hh : HRel w' A' β' H') : CfgF n A' β' E H' a w' :=
  ⟨h.size, h.defers, fun t => RepV.stable hA hs _ _ (fun i hi o' ho' => by
    rcases hid i o' ho' with h1 | h1
    · exact h1
    · exact absurd hi (h1.2.1 t)) (h.env t), hh⟩

theorem getD_set (xs : Array Value) (i j : Nat) (v d : Value) : (xs.setIfInBounds i v).getD j d = if i = j ∧ i < xs.size then v else xs.getD j d := by
  simp only [Array.getD_eq_getD_getElem?, Array.getElem?_setIfInBounds]
  by_cases h : i = j
  · subst h
    by_cases h2 : i < xs.size
    · simp [h2]
    · simp [h2]
  · simp [h]

def putE (E : EF) : Option Nat → AV → EF
  | none, _ => E
  | some d, x => fun t => if t = d then x else E t

theorem CfgF.put {n A β E H a w} (h : CfgF n A β E H a w) {dst : Option Nat} {x : AV} {v : Value} (hd : ∀ d, dst = some d → d < n) (hx : RepV w A β H x v) :
    CfgF n A β (putE E dst x) H (a.put dst v) w := by
  cases dst with
  | none => exact h
  | some d =>
    refine ⟨by simpa [Act.put] using h.size, h.defers, fun t => ?_, h.heap⟩
    simp only [Act.put, putE, getD_set]
    by_cases ht : t = d
    · subst ht
      have := hd t rfl
      simp only [if_pos, h.size, this, and_self]
      exact hx
    · have : ¬ d = t := fun e => ht e.symm
      simp only [this, ht, false_and, if_false]
      exact h.env t

/-- Forget what a slot or an object holds. -/
theorem CfgF.weaken {n A β E H a w} (h : CfgF n A β E H a w) {E' : EF} {H' : HF} (hE : ∀ t, E' t = .any ∨ E' t = E t) (hH : ∀ i, H' i = none ∨ H' i = H i) :
    CfgF n A β E' H' a w ∧ Trans w A β H w A β H' := by
  have hid : ∀ i o', H' i = some o' → ∃ o, H i = some o ∧ Keep w w β β i o o' := fun i o' ho' => by
    rcases hH i with h1 | h1
    · rw [h1] at ho'; cases ho'
    · exact ⟨o', by rw [← h1]; exact ho', Keep.refl w β i o'⟩
  have hH' : ∀ i, H' i ≠ none → H i ≠ none := fun i hi => by
    rcases hH i with h1 | h1
    · exact absurd h1 hi
    · rwa [← h1]
  have heq : ∀ i o, H' i = some o → H i = some o := fun i o ho => by
    rcases hH i with h1 | h1
    · rw [h1] at ho; cases ho
    · rw [← h1]; exact ho
  refine ⟨⟨h.size, h.defers, fun t => ?_, ⟨fun id cs hi => ?_, fun id T sz es hi => h.heap.arr id T sz es (heq _ _ hi), fun i j b hi hj => h.heap.inj i j b (hH' i hi) (hH' j hj), fun i b hi => h.heap.sepA i b (hH' i hi), h.heap.bound⟩⟩,
    ⟨Nat.le_refl _, rfl, rfl, rfl, fun _ _ _ => rfl, fun _ h => h, fun _ h => .inl h, fun i b hi hb => .inr ⟨i, hH' i hi, hb⟩, fun i o o' ho ho' => by rw [heq _ _ ho'] at ho; cases ho; exact Keep.refl w β i _⟩⟩
  · rcases hE t with h1 | h1
    · rw [h1]; simp only [RepV]
    · rw [h1]
      exact RepV.stable (fun _ h => h) (fun _ _ => rfl) _ _ (fun i _ => hid i) (h.env t)
  · obtain ⟨b, c, T, hb, hc, hr⟩ := h.heap.box id cs (heq _ _ hi)
    exact ⟨b, c, T, hb, hc, RepVs.stable (fun _ h => h) (fun _ _ => rfl) _ _ (fun i _ => hid i) hr⟩

theorem heap_alloc_old' (w : World) (o : Obj) {b : Nat} (h : b < w.heap.size) : (w.alloc o).heap[b]? = w.heap[b]? := heap_alloc_old w o b h

/-- A new object in a new block. -/
theorem CfgF.alloc {n A β E H a w} (h : CfgF n A β E H a w) {nm : Nat} (hf : Fresh nm E H) (cells : Array Value) (T : TypeId) (o' : AObj)
    (ho : match o' with
      | .box cs => RepVs w A β H cs cells.toList ∧ nm ∉ AV.idsL cs
      | .arr T' sz es => T' = T ∧ es.length ≤ LB ∧ es.length * sz ≤ cells.size ∧ (∀ e ∈ es, e.length = sz) ∧ ∃ vs us, cells.toList = vs ++ us ∧ RepDs w A es.flatten vs) :
    CfgF n A (fun i => if i = nm then some w.heap.size else β i) E (fun i => if i = nm then some o' else H i) a (w.alloc (.cells cells T)) ∧
    Trans w A β H (w.alloc (.cells cells T)) A (fun i => if i = nm then some w.heap.size else β i) (fun i => if i = nm then some o' else H i) := by
  have hs : ∀ b, A b → (w.alloc (.cells cells T)).heap[b]? = w.heap[b]? := fun b hb => heap_alloc_old w _ b (h.heap.bound b hb)
  have hnew : (w.alloc (.cells cells T)).heap[w.heap.size]? = some (.cells cells T (0, 0)) := heap_alloc_new w _
  have hβ : ∀ i b, H i ≠ none → β i = some b → b < w.heap.size := fun i b hi hb => by
    cases hHi : H i with
    | none => exact absurd hHi hi
    | some o =>
      cases o with
      | box cs =>
        obtain ⟨b', c, T, hb', hc, _⟩ := h.heap.box i cs hHi
        rw [hb] at hb'; cases hb'
        exact (Array.getElem?_eq_some_iff.1 hc).1
      | arr T' sz es =>
        obtain ⟨_, h2⟩ := h.heap.arr i T' sz es hHi
        rcases h2 with ⟨h2, _⟩ | ⟨b', c, hb', hc, _⟩
        · rw [hb] at h2; cases h2
        · rw [hb] at hb'; cases hb'
          exact (Array.getElem?_eq_some_iff.1 hc).1
  have keep : ∀ i o, H i = some o → i ≠ nm → Keep w (w.alloc (.cells cells T)) β (fun i => if i = nm then some w.heap.size else β i) i o o := fun i o hi hne => by
    cases o with
    | box cs => simp [Keep, hne]
    | arr T' sz es =>
      refine ⟨rfl, rfl, Nat.le_refl _, fun _ => ⟨by simp [hne], fun b hb => blkSize_of_heap (heap_alloc_old w _ b (hβ i b (by simp [hi]) hb))⟩⟩
  have stab : ∀ x v, nm ∉ x.ids → RepV w A β H x v → RepV (w.alloc (.cells cells T)) A (fun i => if i = nm then some w.heap.size else β i) (fun i => if i = nm then some o' else H i) x v := fun x v hx hr =>
    RepV.stable (fun _ h => h) hs x v (fun i hi o1 ho1 => by
      have hne : i ≠ nm := fun e => hx (e ▸ hi)
      simp only [hne, if_false] at ho1
      exact ⟨o1, ho1, keep i o1 ho1 hne⟩) hr
  have stabs : ∀ xs vs, nm ∉ AV.idsL xs → RepVs w A β H xs vs → RepVs (w.alloc (.cells cells T)) A (fun i => if i = nm then some w.heap.size else β i) (fun i => if i = nm then some o' else H i) xs vs := fun x v hx hr =>
    RepVs.stable (fun _ h => h) hs x v (fun i hi o1 ho1 => by
      have hne : i ≠ nm := fun e => hx (e ▸ hi)
      simp only [hne, if_false] at ho1
      exact ⟨o1, ho1, keep i o1 ho1 hne⟩) hr
  have hh : HRel (w.alloc (.cells cells T)) A (fun i => if i = nm then some w.heap.size else β i) (fun i => if i = nm then some o' else H i) := by
    refine ⟨fun id cs hi => ?_, fun id T' sz es hi => ?_, fun i j b hi hj hb1 hb2 => ?_, fun i b hi hb => ?_, fun b hb => ?_⟩
    · by_cases e : id = nm
      · subst e
        simp only [if_true, Option.some.injEq] at hi
        subst hi
        exact ⟨w.heap.size, cells, T, by simp, hnew, stabs _ _ ho.2 ho.1⟩
      · simp only [e, if_false] at hi
        obtain ⟨b, c, T', hb, hc, hr⟩ := h.heap.box id cs hi
        refine ⟨b, c, T', by simpa [e] using hb, ?_, stabs _ _ (hf.2.2 id _ hi) hr⟩
        rw [heap_alloc_old w _ b (Array.getElem?_eq_some_iff.1 hc).1]; exact hc
    · by_cases e : id = nm
      · subst e
        simp only [if_true, Option.some.injEq] at hi
        subst hi
        obtain ⟨rfl, h1, h2, h3, vs, us, h4, h5⟩ := ho
        refine ⟨h1, .inr ⟨w.heap.size, cells, by simp, hnew, h2, RepEs.of_values h3 (h5.stable (fun _ h => h) hs) fun j v hj => ?_⟩⟩
        simp only [World.cell?, hnew, Option.isSome_none, Bool.false_eq_true, if_false, Nat.zero_add]
        rw [← Array.getElem?_toList, h4, List.getElem?_append_left (List.getElem?_eq_some_iff.1 hj).1]
        exact hj
      · simp only [e, if_false] at hi
        obtain ⟨h1, h2⟩ := h.heap.arr id T' sz es hi
        refine ⟨h1, ?_⟩
        rcases h2 with ⟨h2, h3⟩ | ⟨b, c, hb, hc, h3, h4⟩
        · exact .inl ⟨by simpa [e] using h2, h3⟩
        · have hlt := (Array.getElem?_eq_some_iff.1 hc).1
          refine .inr ⟨b, c, by simpa [e] using hb, by rw [heap_alloc_old w _ b hlt]; exact hc, h3, ?_⟩
          exact RepEs.stable (fun _ h => h) hs b sz (heap_alloc_old w _ b hlt) 0 es h4
    · by_cases e1 : i = nm <;> by_cases e2 : j = nm <;> simp only [e1, e2, if_true, if_false] at hi hj hb1 hb2
      · rw [e1, e2]
      · have := hβ j b hj hb2; cases hb1; omega
      · have := hβ i b hi hb1; cases hb2; omega
      · exact h.heap.inj i j b hi hj hb1 hb2
    · by_cases e1 : i = nm
      · simp only [e1, if_true, Option.some.injEq] at hb
        intro hA
        have := h.heap.bound b hA
        omega
      · simp only [e1, if_false] at hi hb
        exact h.heap.sepA i b hi hb
    · have := h.heap.bound b hb; simp only [World.size_alloc]; omega
  refine ⟨h.update (fun _ h => h) hs (fun i o1 ho1 => ?_) hh, ⟨by simp, rfl, rfl, rfl, fun b hb _ => heap_alloc_old w _ b hb, fun _ h => h, fun _ h => .inl h, fun i b hi hb => ?_, fun i o o1 ho1 ho2 => ?_⟩⟩
  · by_cases e : i = nm
    · subst e; exact .inr hf
    · simp only [e, if_false] at ho1
      exact .inl ⟨o1, ho1, keep i o1 ho1 e⟩
  · by_cases e : i = nm
    · simp only [e, if_true, Option.some.injEq] at hb; exact .inl (by omega)
    · simp only [e, if_false] at hi hb; exact .inr ⟨i, hi, hb⟩
  · by_cases e : i = nm
    · subst e; rw [hf.1] at ho1; cases ho1
    · simp only [e, if_false] at ho2
      rw [ho1] at ho2; cases ho2
      exact keep i o ho1 e

/-- An array becomes data that nobody writes any more. -/
theorem CfgF.freeze {n A β E H a w} (h : CfgF n A β E H a w) (id : Nat) :
    CfgF n (fun b => A b ∨ (H id ≠ none ∧ β id = some b)) β E (fun i => if i = id then none else H i) a w ∧
    Trans w A β H w (fun b => A b ∨ (H id ≠ none ∧ β id = some b)) β (fun i => if i = id then none else H i) := by
  have hA : ∀ b, A b → (A b ∨ (H id ≠ none ∧ β id = some b)) := fun _ h => .inl h
  have idok : ∀ i o', (if i = id then none else H i) = some o' → ∃ o, H i = some o ∧ Keep w w β β i o o' := fun i o' ho' => by
    by_cases e : i = id
    · simp [e] at ho'
    · simp only [e, if_false] at ho'
      exact ⟨o', ho', Keep.refl w β i o'⟩
  have hne : ∀ i, (if i = id then none else H i) ≠ none → i ≠ id ∧ H i ≠ none := fun i hi => by
    by_cases e : i = id
    · simp [e] at hi
    · simpa [e] using hi
  have hh : HRel w (fun b => A b ∨ (H id ≠ none ∧ β id = some b)) β (fun i => if i = id then none else H i) := by
    refine ⟨fun i cs hi => ?_, fun i T' sz es hi => ?_, fun i j b hi hj hb1 hb2 => ?_, fun i b hi hb => ?_, fun b hb => ?_⟩
    · by_cases e : i = id
      · simp [e] at hi
      · simp only [e, if_false] at hi
        obtain ⟨b, c, T', hb, hc, hr⟩ := h.heap.box i cs hi
        exact ⟨b, c, T', hb, hc, RepVs.stable hA (fun _ _ => rfl) _ _ (fun i _ => idok i) hr⟩
    · by_cases e : i = id
      · simp [e] at hi
      · simp only [e, if_false] at hi
        obtain ⟨h1, h2⟩ := h.heap.arr i T' sz es hi
        refine ⟨h1, h2.imp (fun h => h) fun ⟨b, c, hb, hc, h3, h4⟩ => ⟨b, c, hb, hc, h3, RepEs.stable hA (fun _ _ => rfl) b sz rfl 0 es h4⟩⟩
    · exact h.heap.inj i j b (hne i hi).2 (hne j hj).2 hb1 hb2
    · rintro (h1 | ⟨h1, h2⟩)
      · exact h.heap.sepA i b (hne i hi).2 hb h1
      · exact (hne i hi).1 (h.heap.inj i id b (hne i hi).2 h1 hb h2)
    · rcases hb with hb | ⟨h1, h2⟩
      · exact h.heap.bound b hb
      · cases ho : H id with
        | none => exact absurd ho h1
        | some o =>
          cases o with
          | box cs =>
            obtain ⟨b', c, T, hb', hc, _⟩ := h.heap.box id cs ho
            rw [h2] at hb'; cases hb'
            exact (Array.getElem?_eq_some_iff.1 hc).1
          | arr T' sz es =>
            obtain ⟨_, h3⟩ := h.heap.arr id T' sz es ho
            rcases h3 with ⟨h3, _⟩ | ⟨b', c, hb', hc, _⟩
            · rw [h2] at h3; cases h3
            · rw [h2] at hb'; cases hb'
              exact (Array.getElem?_eq_some_iff.1 hc).1
  refine ⟨h.update hA (fun _ _ => rfl) (fun i o1 ho1 => .inl (idok i o1 ho1)) hh, ⟨Nat.le_refl _, rfl, rfl, rfl, fun _ _ _ => rfl, hA, fun b hb => ?_, fun i b hi hb => .inr ⟨i, (hne i hi).2, hb⟩, fun i o o1 ho1 ho2 => ?_⟩⟩
  · rcases hb with hb | ⟨h1, h2⟩
    · exact .inl hb
    · exact .inr (.inr ⟨id, h1, h2⟩)
  · obtain ⟨o2, h1, h2⟩ := idok i o1 ho2
    rw [ho1] at h1; cases h1; exact h2

/-- Behind the freezing the array reads as data. -/
theorem CfgF.frozen_rep {n A β E H a w} (h : CfgF n A β E H a w) {id T sz es} (ho : H id = some (.arr T sz es)) {off len v} (hv : RepV w A β H (.arr id off len) v) (hs : off + len = es.length) :
    RepD w (fun b => A b ∨ (H id ≠ none ∧ β id = some b)) (.sl ((es.drop off).take len)) v := by
  simp only [RepV, ho] at hv
  obtain ⟨⟨a0, cap0, rfl, hc0⟩, _, h3⟩ := hv
  obtain ⟨h1, h2⟩ := h.heap.arr id T sz es ho
  have hlen : ((es.drop off).take len).length = len := by simp; omega
  simp only [RepD]
  refine ⟨a0, cap0, by rw [hlen], by rw [hlen]; exact hc0, trivial, ?_⟩
  by_cases hz : len = 0
  · exact .inl (by simp [hz])
  rcases h3 hs with ⟨hb, hoff, a, hv⟩ | ⟨b, a, cap, hb, hv, ha, hcap, _⟩
  · cases hv; omega
  · rcases h2 with ⟨h2, _⟩ | ⟨b', c, hb', hc, hle, hr⟩
    · rw [hb] at h2; cases h2
    rw [hb] at hb'; cases hb'
    cases hv
    rcases ha with ha | ha
    · omega
    · subst ha
      refine .inr ⟨b, off * sz, sz, rfl, .inr ⟨by simp [ho], hb⟩, ?_⟩
      have h5 := RepEs.take len (RepEs.drop off hr (by omega))
      rw [Nat.zero_add] at h5
      exact RepEs.stable (fun b hb => .inl hb) (fun _ _ => rfl) b sz rfl _ _ h5
end Go.AX
