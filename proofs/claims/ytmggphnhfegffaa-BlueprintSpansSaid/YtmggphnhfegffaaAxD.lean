import Derived.Test.YtmggphnhfegffaaAxC
set_option linter.unusedVariables false
set_option linter.unusedSimpArgs false
namespace Go.AX

theorem HRel.lt {w A β H} (h : HRel w A β H) {i b : Nat} (hi : H i ≠ none) (hb : β i = some b) : b < w.heap.size := by
  cases hHi : H i with
  | none => exact absurd hHi hi
  | some o =>
    cases o with
    | box cs =>
      obtain ⟨b', c, T, hb', hc, _⟩ := h.box i cs hHi
      rw [hb] at hb'; cases hb'
      exact (Array.getElem?_eq_some_iff.1 hc).1
    | arr T' sz es =>
      obtain ⟨_, h2⟩ := h.arr i T' sz es hHi
      rcases h2 with ⟨h2, _⟩ | ⟨b', c, hb', hc, _⟩
      · rw [hb] at h2; cases h2
      · rw [hb] at hb'; cases hb'
        exact (Array.getElem?_eq_some_iff.1 hc).1

/-- One object changes: its own block is written, or it moves to a new one. -/
theorem CfgF.change {n A β E H a w} (h : CfgF n A β E H a w) {id : Nat} {o : AObj} (ho : H id = some o) (o' : AObj) {β' : BF} {w' : World} {b' : Nat}
    (hsize : w.heap.size ≤ w'.heap.size) (hos : w'.os = w.os) (htape : w'.tape = w.tape) (hout : w'.output = w.output)
    (hoth : ∀ b, b < w.heap.size → β id ≠ some b → w'.heap[b]? = w.heap[b]?)
    (hβ : ∀ i, i ≠ id → β' i = β i) (hb' : β' id = some b') (hnew : β id = some b' ∨ w.heap.size ≤ b')
    (hkeep : Keep w w' β β' id o o')
    (hcont : match o' with
      | .box cs => ∃ c T, w'.heap[b']? = some (.cells c T (0, 0)) ∧ RepVs w A β H cs c.toList
      | .arr T sz es => es.length ≤ LB ∧ ∃ c, w'.heap[b']? = some (.cells c T (0, 0)) ∧ es.length * sz ≤ c.size ∧ (∀ e ∈ es, e.length = sz) ∧ ∃ vs us, c.toList = vs ++ us ∧ RepDs w A es.flatten vs) :
    CfgF n A β' E (fun i => if i = id then some o' else H i) a w' ∧ Trans w A β H w' A β' (fun i => if i = id then some o' else H i) := by
  have hid : H id ≠ none := by simp [ho]
  have hs : ∀ b, A b → w'.heap[b]? = w.heap[b]? := fun b hb => hoth b (h.heap.bound b hb) fun e => h.heap.sepA id b hid e hb
  have hoi : ∀ i b, i ≠ id → H i ≠ none → β i = some b → w'.heap[b]? = w.heap[b]? := fun i b hne hi hb =>
    hoth b (h.heap.lt hi hb) fun e => hne (h.heap.inj i id b hi hid hb e)
  have idok : ∀ i o1, (if i = id then some o' else H i) = some o1 → ∃ o2, H i = some o2 ∧ Keep w w' β β' i o2 o1 := fun i o1 h1 => by
    by_cases e : i = id
    · subst e
      simp only [if_true, Option.some.injEq] at h1
      subst h1
      exact ⟨o, ho, hkeep⟩
    · simp only [e, if_false] at h1
      refine ⟨o1, h1, ?_⟩
      cases o1 with
      | box cs => exact hβ i e
      | arr T sz es => exact ⟨rfl, rfl, Nat.le_refl _, fun _ => ⟨hβ i e, fun b hb => blkSize_of_heap (hoi i b e (by simp [h1]) hb)⟩⟩
  have hne : ∀ i, i ≠ id → (if i = id then some o' else H i) ≠ none → H i ≠ none := fun i e hi => by simpa [e] using hi
  have fresh : ∀ i b, i ≠ id → H i ≠ none → β i = some b → b ≠ b' := fun i b e hi hb eb => by
    subst eb
    rcases hnew with h1 | h1
    · exact e (h.heap.inj i id b hi hid hb h1)
    · have := h.heap.lt hi hb; omega
  have hh : HRel w' A β' (fun i => if i = id then some o' else H i) := by
    refine ⟨fun i cs hi => ?_, fun i T sz es hi => ?_, fun i j b hi hj hb1 hb2 => ?_, fun i b hi hb hA => ?_, fun b hb => ?_⟩
    · by_cases e : i = id
      · subst e
        simp only [if_true, Option.some.injEq] at hi
        subst hi
        obtain ⟨c, T, hc, hr⟩ := hcont
        exact ⟨b', c, T, hb', hc, RepVs.stable (fun _ h => h) hs _ _ (fun i _ => idok i) hr⟩
      · simp only [e, if_false] at hi
        obtain ⟨b, c, T, hb, hc, hr⟩ := h.heap.box i cs hi
        exact ⟨b, c, T, by rw [hβ i e]; exact hb, by rw [hoi i b e (by simp [hi]) hb]; exact hc, RepVs.stable (fun _ h => h) hs _ _ (fun i _ => idok i) hr⟩
    · by_cases e : i = id
      · subst e
        simp only [if_true, Option.some.injEq] at hi
        subst hi
        obtain ⟨h1, c, hc, h2, h3, vs, us, h4, h5⟩ := hcont
        refine ⟨h1, .inr ⟨b', c, hb', hc, h2, RepEs.of_values h3 (h5.stable (fun _ h => h) hs) fun j v hj => ?_⟩⟩
        simp only [World.cell?, hc, Option.isSome_none, Bool.false_eq_true, if_false, Nat.zero_add]
        rw [← Array.getElem?_toList, h4, List.getElem?_append_left (List.getElem?_eq_some_iff.1 hj).1]
        exact hj
      · simp only [e, if_false] at hi
        obtain ⟨h1, h2⟩ := h.heap.arr i T sz es hi
        refine ⟨h1, ?_⟩
        rcases h2 with ⟨h2, h3⟩ | ⟨b, c, hb, hc, h3, h4⟩
        · exact .inl ⟨by rw [hβ i e]; exact h2, h3⟩
        · refine .inr ⟨b, c, by rw [hβ i e]; exact hb, by rw [hoi i b e (by simp [hi]) hb]; exact hc, h3, ?_⟩
          exact RepEs.stable (fun _ h => h) hs b sz (hoi i b e (by simp [hi]) hb) 0 es h4
    · by_cases e1 : i = id <;> by_cases e2 : j = id
      · rw [e1, e2]
      · subst e1
        rw [hb'] at hb1; cases hb1
        rw [hβ j e2] at hb2
        exact absurd rfl (fresh j _ e2 (hne j e2 hj) hb2)
      · subst e2
        rw [hb'] at hb2; cases hb2
        rw [hβ i e1] at hb1
        exact absurd rfl (fresh i _ e1 (hne i e1 hi) hb1)
      · rw [hβ i e1] at hb1; rw [hβ j e2] at hb2
        exact h.heap.inj i j b (hne i e1 hi) (hne j e2 hj) hb1 hb2
    · by_cases e : i = id
      · subst e
        rw [hb'] at hb; cases hb
        rcases hnew with h1 | h1
        · exact h.heap.sepA i _ hid h1 hA
        · have := h.heap.bound _ hA; omega
      · rw [hβ i e] at hb
        exact h.heap.sepA i b (hne i e hi) hb hA
    · exact Nat.lt_of_lt_of_le (h.heap.bound b hb) hsize
  refine ⟨h.update (fun _ h => h) hs (fun i o1 ho1 => .inl (idok i o1 ho1)) hh, ⟨hsize, hos, htape, hout, fun b hb hn => hoth b hb (hn id hid), fun _ h => h, fun _ h => .inl h, fun i b hi hb => ?_, fun i o2 o1 ho2 ho1 => ?_⟩⟩
  · by_cases e : i = id
    · subst e
      rw [hb'] at hb; cases hb
      rcases hnew with h1 | h1
      · exact .inr ⟨i, hid, h1⟩
      · exact .inl h1
    · rw [hβ i e] at hb
      exact .inr ⟨i, hne i e hi, hb⟩
  · obtain ⟨o3, h1, h2⟩ := idok i o1 ho1
    rw [ho2] at h1; cases h1; exact h2

/-- The same, the object's own block written. -/
theorem CfgF.write {n A β E H a w} (h : CfgF n A β E H a w) {id : Nat} {o : AObj} (ho : H id = some o) (o' : AObj) {b : Nat} {c c' : Array Value} {T : TypeId}
    (hb : β id = some b) (hc : w.heap[b]? = some (.cells c T (0, 0))) (hcs : c'.size = c.size)
    (hcont : match o, o' with
      | .box _, .box cs => RepVs w A β H cs c'.toList
      | .arr T1 sz1 es1, .arr T2 sz es => T2 = T1 ∧ T2 = T ∧ sz = sz1 ∧ es1.length ≤ es.length ∧ es.length ≤ LB ∧ es.length * sz ≤ c'.size ∧ (∀ e ∈ es, e.length = sz) ∧ ∃ vs us, c'.toList = vs ++ us ∧ RepDs w A es.flatten vs
      | _, _ => False) :
    CfgF n A β E (fun i => if i = id then some o' else H i) a (w.setRow b c') ∧ Trans w A β H (w.setRow b c') A β (fun i => if i = id then some o' else H i) := by
  refine h.change ho o' (b' := b) (by simp) rfl rfl rfl (fun b1 _ hne => setRow_other w b b1 c' (fun e => hne (e ▸ hb))) (fun _ _ => rfl) hb (.inl hb) ?_ ?_
  · cases o with
    | box cs => cases o' with
      | box cs' => rfl
      | arr T sz es => exact hcont.elim
    | arr T1 sz1 es1 => cases o' with
      | box cs' => exact hcont.elim
      | arr T2 sz es =>
        obtain ⟨h1, h2, h3, h4, _⟩ := hcont
        refine ⟨h1, h3, h4, fun _ => ⟨rfl, fun b1 hb1 => ?_⟩⟩
        rw [hb] at hb1; cases hb1
        simp only [blkSize, setRow_heap w b c c' T _ hc, hc, hcs]
  · cases o with
    | box cs => cases o' with
      | box cs' => exact ⟨c', T, setRow_heap w b c c' T _ hc, hcont⟩
      | arr T sz es => exact hcont.elim
    | arr T1 sz1 es1 => cases o' with
      | box cs' => exact hcont.elim
      | arr T2 sz es =>
        obtain ⟨h1, h2, h3, h4, h5, h6, h7, h8⟩ := hcont
        subst h2
        exact ⟨h5, c', setRow_heap w b c c' _ _ hc, h6, h7, h8⟩

/-! ### append -/
theorem run_firstCells_rep {P : Program} (w : World) (size m : Nat) (ax : Option Addr) (c : Nat) (news : List Value) (hl : news.length = m * size)
    (hx : m = 0 ∨ ∃ ad, ax = some ad ∧ ∀ (j : Nat) (v : Value), news[j]? = some v → w.cell? (ad.add j) = some v) :
    (Builtin.firstCells size m (.slice ax m c)).run P w = .ok news.toArray w := by
  rcases hx with rfl | ⟨ad, rfl, h⟩
  · have : news = [] := List.eq_nil_of_length_eq_zero (by simpa using hl)
    subst this
    cases ax with
    | none => simp [Builtin.firstCells]
    | some ad => exact run_firstCells_some (P := P) w size 0 ad 0 c [] (by simp) (by simp)
  · exact run_firstCells_some (P := P) w size m ad m c news hl h

section
variable {P : Program} (w : World)
theorem run_append_grow' (t ty e : TypeId) (i : TypeInfo) (z : Value) (ht : P.underlying t = some (.slice e)) (hi : P.info? e = some i) (hz : i.zero = some z)
    (b : Option Addr) (sLen sCap : Nat) (olds : List Value) (hlo : olds.length = sLen * i.size) (holds : sLen = 0 ∨ ∃ ad, b = some ad ∧ ∀ (j : Nat) (v : Value), olds[j]? = some v → w.cell? (ad.add j) = some v)
    (ax : Option Addr) (m c : Nat) (news : List Value) (hl : news.length = m * i.size) (hnews : m = 0 ∨ ∃ ad, ax = some ad ∧ ∀ (j : Nat) (v : Value), news[j]? = some v → w.cell? (ad.add j) = some v)
    (hg : sCap < sLen + m) (h63 : ((sLen + m : Nat) : Int) ≤ 9223372036854775807) (hfit : Builtin.nextslicecap (sLen + m) sCap * i.bytes ≤ 281474976710656) :
    (Builtin.append_ #[t, t] ty #[.slice b sLen sCap, .slice ax m c]).run P w =
      .ok (.slice (some ⟨w.heap.size, 0, none⟩) (sLen + m) (grownCap w (sLen + m) sCap e))
        (w.drew.alloc (.cells (olds.toArray ++ news.toArray ++ Builtin.zeroCells z.cells (grownCap w (sLen + m) sCap e - (sLen + m))) e)) := by
  have hn : ¬ (sLen + m ≤ sCap) := by omega
  have h63' : ¬ (9223372036854775807 < ((sLen : Int) + (m : Int))) := by omega
  have h48' : ¬ (281474976710656 < Builtin.nextslicecap (sLen + m) sCap * i.bytes) := by omega
  have hf := run_firstCells_rep (P := P) w.drew i.size m ax c news hl (by simpa using hnews)
  have hfo : (Builtin.firstCells i.size sLen (.slice b sLen sCap)).run P w.drew = .ok olds.toArray w.drew := by
    rcases holds with rfl | ⟨ad, rfl, h⟩
    · have : olds = [] := List.eq_nil_of_length_eq_zero (by simpa using hlo)
      subst this
      cases b with
      | none => simp [Builtin.firstCells]
      | some ad => exact run_firstCells_some (P := P) w.drew i.size 0 ad 0 sCap [] (by simp) (by simp)
    · exact run_firstCells_some (P := P) w.drew i.size sLen ad sLen sCap olds hlo (by simpa using h)
  simp [Builtin.append_, run_underlying ht, sizeOf, typeInfo, zeroValue, hi, hz, Builtin.lenOf, hn, h63', h48', Question.forced, hf, hfo, newRow, grownCap]
  congr 2
  apply Array.ext'
  simp [List.append_assoc]

theorem run_append_room' (t ty e : TypeId) (i : TypeInfo) (ht : P.underlying t = some (.slice e)) (hi : P.info? e = some i)
    (g sLen sCap : Nat) (cur : Array Value) (T : TypeId) (hg : w.heap[g]? = some (.cells cur T (0, 0)))
    (ax : Option Addr) (m c : Nat) (news : List Value) (hl : news.length = m * i.size) (hnews : m = 0 ∨ ∃ ad, ax = some ad ∧ ∀ (j : Nat) (v : Value), news[j]? = some v → w.cell? (ad.add j) = some v)
    (h1 : ∀ u ∈ news, u.oneCell' = true)
    (hroom : sLen + m ≤ sCap) (hfit : sLen * i.size + news.length ≤ cur.size) :
    (Builtin.append_ #[t, t] ty #[.slice (some ⟨g, 0, none⟩) sLen sCap, .slice ax m c]).run P w =
      .ok (.slice (some ⟨g, 0, none⟩) (sLen + m) sCap) (w.setRow g (cur.toList.take (sLen * i.size) ++ news ++ cur.toList.drop (sLen * i.size + news.length)).toArray) := by
  have hf := run_firstCells_rep (P := P) w i.size m ax c news hl hnews
  have hst := run_storeCells_at P g (sLen * i.size) T news 0 cur w hg (by simpa using hfit) h1
  simp only [Nat.add_zero] at hst
  simp [Builtin.append_, run_underlying ht, sizeOf, typeInfo, hi, Builtin.lenOf, hroom, hf, Addr.add_lit, hst]

theorem run_append_none (t ty e : TypeId) (i : TypeInfo) (ht : P.underlying t = some (.slice e)) (hi : P.info? e = some i)
    (b : Option Addr) (sCap : Nat) (ax : Option Addr) (c : Nat) :
    (Builtin.append_ #[t, t] ty #[.slice b 0 sCap, .slice ax 0 c]).run P w = .ok (.slice b 0 sCap) w := by
  have hf := run_firstCells_rep (P := P) w i.size 0 ax c [] (by simp) (.inl rfl)
  cases b <;> simp [Builtin.append_, run_underlying ht, sizeOf, typeInfo, hi, Builtin.lenOf, hf, storeCells]
end
end Go.AX
