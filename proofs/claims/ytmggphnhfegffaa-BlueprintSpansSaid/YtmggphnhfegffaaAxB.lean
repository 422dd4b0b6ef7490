import Derived.Test.YtmggphnhfegffaaAxA
import Derived.Laws.Sem
import Derived.Laws.World
import Derived.Laws.AppendOwn
set_option linter.unusedVariables false
set_option linter.unusedSimpArgs false
namespace Go.AX

theorem Keep.refl (w : World) (β : BF) (i : Nat) : ∀ o : AObj, Keep w w β β i o o
  | .box _ => rfl
  | .arr _ _ _ => ⟨rfl, rfl, Nat.le_refl _, fun _ => ⟨rfl, fun _ _ => rfl⟩⟩

theorem Keep.trans {w w' w'' : World} {β β' β'' : BF} {i : Nat} {o o' o'' : AObj} (h : Keep w w' β β' i o o') (k : Keep w' w'' β' β'' i o' o'') : Keep w w'' β β'' i o o'' := by
  cases o with
  | box cs =>
    cases o' with
    | arr T sz es => exact h.elim
    | box cs' =>
      cases o'' with
      | arr T sz es => exact k.elim
      | box cs'' => exact Eq.trans (show β'' i = β' i from k) (show β' i = β i from h)
  | arr T sz es =>
    cases o' with
    | box cs => exact h.elim
    | arr T' sz' es' =>
      cases o'' with
      | box cs => exact k.elim
      | arr T'' sz'' es'' =>
        obtain ⟨a1, a2, a3, a4⟩ := h
        obtain ⟨b1, b2, b3, b4⟩ := k
        refine ⟨b1.trans a1, b2.trans a2, Nat.le_trans a3 b3, fun e => ?_⟩
        have e1 : es.length = es'.length := by omega
        have e2 : es'.length = es''.length := by omega
        refine ⟨(b4 e2).1.trans (a4 e1).1, fun b hb => ?_⟩
        rw [(b4 e2).2 b (by rw [(a4 e1).1]; exact hb), (a4 e1).2 b hb]

theorem Trans.refl (w : World) (A : Nat → Prop) (β : BF) (H : HF) : Trans w A β H w A β H :=
  ⟨Nat.le_refl _, rfl, rfl, rfl, fun _ _ _ => rfl, fun _ h => h, fun _ h => .inl h, fun i b hi hb => .inr ⟨i, hi, hb⟩,
    fun i o o' h h' => by rw [h] at h'; cases h'; exact Keep.refl w β i o⟩

theorem Trans.comp {w A β H w' A' β' H' w'' A'' β'' H''} (h : Trans w A β H w' A' β' H') (k : Trans w' A' β' H' w'' A'' β'' H'')
    (hd : ∀ i, H i ≠ none → H' i = none → H'' i = none) : Trans w A β H w'' A'' β'' H'' := by
  refine ⟨Nat.le_trans h.size k.size, k.os.trans h.os, k.tape.trans h.tape, k.output.trans h.output, fun b hb ho => ?_, fun b hb => k.mono b (h.mono b hb), fun b hb => ?_, fun i b hi hb => ?_, fun i o o'' ho ho'' => ?_⟩
  · rw [k.same b (Nat.lt_of_lt_of_le hb h.size) (fun i hi hbi => ?_), h.same b hb ho]
    rcases h.own i b hi hbi with h1 | ⟨j, hj, hbj⟩
    · omega
    · exact ho j hj hbj
  · rcases k.new b hb with h1 | h1 | ⟨i, hi, hbi⟩
    · exact h.new b h1
    · exact .inr (.inl (Nat.le_trans h.size h1))
    · rcases h.own i b hi hbi with h1 | h1
      · exact .inr (.inl h1)
      · exact .inr (.inr h1)
  · rcases k.own i b hi hb with h1 | ⟨j, hj, hbj⟩
    · exact .inl (Nat.le_trans h.size h1)
    · exact h.own j b hj hbj
  · cases h1 : H' i with
    | none => rw [hd i (by simp [ho]) h1] at ho''; cases ho''
    | some o' => exact (h.keep i o o' ho h1).trans (k.keep i o' o'' h1 ho'')

/-! ### lists of cells -/
def RepDs (w : World) (A : Nat → Prop) : List D → List Value → Prop
  | [], vs => vs = []
  | d :: r, vs => ∃ v t, vs = v :: t ∧ RepD w A d v ∧ RepDs w A r t

theorem RepDs.length {w A} : ∀ {ds : List D} {vs : List Value}, RepDs w A ds vs → vs.length = ds.length
  | [], vs, h => by simp only [RepDs] at h; simp [h]
  | d :: r, vs, h => by
    simp only [RepDs] at h
    obtain ⟨v, t, rfl, _, h⟩ := h
    simp [RepDs.length h]

theorem RepDs.append {w A} : ∀ {ds es : List D} {vs us : List Value}, RepDs w A ds vs → RepDs w A es us → RepDs w A (ds ++ es) (vs ++ us)
  | [], es, vs, us, h, k => by simp only [RepDs] at h; simpa [h] using k
  | d :: r, es, vs, us, h, k => by
    simp only [RepDs] at h
    obtain ⟨v, t, rfl, hd, h⟩ := h
    simp only [List.cons_append, RepDs]
    exact ⟨v, t ++ us, rfl, hd, RepDs.append h k⟩

theorem RepDs.split {w A} : ∀ {ds es : List D} {vs : List Value}, RepDs w A (ds ++ es) vs → ∃ xs ys, vs = xs ++ ys ∧ RepDs w A ds xs ∧ RepDs w A es ys
  | [], es, vs, h => ⟨[], vs, rfl, by simp [RepDs], h⟩
  | d :: r, es, vs, h => by
    simp only [List.cons_append, RepDs] at h
    obtain ⟨v, t, rfl, hd, h⟩ := h
    obtain ⟨xs, ys, rfl, h1, h2⟩ := RepDs.split h
    exact ⟨v :: xs, ys, rfl, by simp only [RepDs]; exact ⟨v, xs, rfl, hd, h1⟩, h2⟩

theorem RepDs.stable {w w' A A'} (hA : ∀ b, A b → A' b) (hs : ∀ b, A b → w'.heap[b]? = w.heap[b]?) : ∀ {ds : List D} {vs : List Value}, RepDs w A ds vs → RepDs w' A' ds vs
  | [], vs, h => by simpa only [RepDs] using h
  | d :: r, vs, h => by
    simp only [RepDs] at h ⊢
    obtain ⟨v, t, e, hd, h⟩ := h
    exact ⟨v, t, e, RepD.stable hA hs d v hd, RepDs.stable hA hs h⟩

theorem RepVs_d {w A β H} : ∀ {ds : List D} {vs : List Value}, RepVs w A β H (ds.map AV.d) vs ↔ RepDs w A ds vs
  | [], vs => by simp [RepVs, RepDs]
  | d :: r, vs => by simp [RepVs, RepDs, RepV, RepVs_d (ds := r)]

theorem RepVs.length {w A β H} : ∀ {xs : List AV} {vs : List Value}, RepVs w A β H xs vs → vs.length = xs.length
  | [], vs, h => by simp only [RepVs] at h; simp [h]
  | d :: r, vs, h => by
    simp only [RepVs] at h
    obtain ⟨v, t, rfl, _, h⟩ := h
    simp [RepVs.length h]

theorem RepVs.append {w A β H} : ∀ {ds es : List AV} {vs us : List Value}, RepVs w A β H ds vs → RepVs w A β H es us → RepVs w A β H (ds ++ es) (vs ++ us)
  | [], es, vs, us, h, k => by simp only [RepVs] at h; simpa [h] using k
  | d :: r, es, vs, us, h, k => by
    simp only [RepVs] at h
    obtain ⟨v, t, rfl, hd, h⟩ := h
    simp only [List.cons_append, RepVs]
    exact ⟨v, t ++ us, rfl, hd, RepVs.append h k⟩

theorem RepVs.get {w A β H} : ∀ {xs : List AV} {vs : List Value}, RepVs w A β H xs vs → ∀ (i : Nat) (x : AV), xs[i]? = some x → ∃ v, vs[i]? = some v ∧ RepV w A β H x v
  | [], vs, h, i, x, hx => by simp at hx
  | y :: r, vs, h, i, x, hx => by
    simp only [RepVs] at h
    obtain ⟨v, t, rfl, hd, h⟩ := h
    cases i with
    | zero => simp at hx; subst hx; exact ⟨v, by simp, hd⟩
    | succ i => simpa using RepVs.get h i x (by simpa using hx)

theorem RepVs.take {w A β H} : ∀ {xs : List AV} {vs : List Value} (n : Nat), RepVs w A β H xs vs → RepVs w A β H (xs.take n) (vs.take n)
  | xs, vs, 0, h => by simp [RepVs]
  | [], vs, n + 1, h => by simp only [RepVs] at h; simp [h, RepVs]
  | x :: r, vs, n + 1, h => by
    simp only [RepVs] at h
    obtain ⟨v, t, rfl, hd, h⟩ := h
    simp only [List.take_succ_cons, RepVs]
    exact ⟨v, t.take n, rfl, hd, RepVs.take n h⟩

theorem RepVs.drop {w A β H} : ∀ {xs : List AV} {vs : List Value} (n : Nat), RepVs w A β H xs vs → RepVs w A β H (xs.drop n) (vs.drop n)
  | xs, vs, 0, h => by simpa using h
  | [], vs, n + 1, h => by simp only [RepVs] at h; simp [h, RepVs]
  | x :: r, vs, n + 1, h => by
    simp only [RepVs] at h
    obtain ⟨v, t, rfl, hd, h⟩ := h
    simpa using RepVs.drop n h

/-- From the block's values to elements. -/
theorem RepCs.of_values {w A b} : ∀ {ds : List D} {vs : List Value} {o : Nat}, RepDs w A ds vs → (∀ (j : Nat) (v : Value), vs[j]? = some v → w.cell? ⟨b, o + j, none⟩ = some v) → RepCs w A b o ds
  | [], vs, o, h, k => by simp only [RepCs]
  | d :: r, vs, o, h, k => by
    simp only [RepDs] at h
    obtain ⟨v, t, rfl, hd, h⟩ := h
    simp only [RepCs]
    exact ⟨⟨v, k 0 v (by simp), hd⟩, RepCs.of_values h fun j u hu => by rw [show o + 1 + j = o + (j + 1) by omega]; exact k (j + 1) u (by simpa using hu)⟩

theorem RepCs.values {w A b} : ∀ {ds : List D} {o : Nat}, RepCs w A b o ds → ∃ vs, RepDs w A ds vs ∧ ∀ (j : Nat) (v : Value), vs[j]? = some v → w.cell? ⟨b, o + j, none⟩ = some v
  | [], o, h => ⟨[], by simp [RepDs], by simp⟩
  | d :: r, o, h => by
    simp only [RepCs] at h
    obtain ⟨⟨v, hv, hd⟩, h⟩ := h
    obtain ⟨vs, h1, h2⟩ := RepCs.values h
    refine ⟨v :: vs, by simp only [RepDs]; exact ⟨v, vs, rfl, hd, h1⟩, fun j u hu => ?_⟩
    cases j with
    | zero => simp at hu; subst hu; simpa using hv
    | succ j => have := h2 j u (by simpa using hu); rwa [show o + 1 + j = o + (j + 1) by omega] at this

theorem RepEs.of_values {w A b sz} : ∀ {es : List (List D)} {vs : List Value} {o : Nat}, (∀ e ∈ es, e.length = sz) → RepDs w A es.flatten vs → (∀ (j : Nat) (v : Value), vs[j]? = some v → w.cell? ⟨b, o + j, none⟩ = some v) → RepEs w A b sz o es
  | [], vs, o, hl, h, k => by simp only [RepEs]
  | e :: r, vs, o, hl, h, k => by
    simp only [List.flatten_cons] at h
    obtain ⟨xs, ys, rfl, h1, h2⟩ := RepDs.split h
    have he : e.length = sz := hl e (by simp)
    have hxl := RepDs.length h1
    simp only [RepEs]
    refine ⟨he, RepCs.of_values h1 fun j v hj => k j v ?_, RepEs.of_values (fun e' he' => hl e' (by simp [he'])) h2 fun j v hj => ?_⟩
    · rw [List.getElem?_append_left]
      · exact hj
      · exact (List.getElem?_eq_some_iff.1 hj).1
    · have := k (sz + j) v (by rw [List.getElem?_append_right (by omega)]; rw [show sz + j - xs.length = j by omega]; exact hj)
      rwa [show o + sz + j = o + (sz + j) by omega]

theorem RepEs.values {w A b sz} : ∀ {es : List (List D)} {o : Nat}, RepEs w A b sz o es → (∀ e ∈ es, e.length = sz) ∧ ∃ vs, vs.length = es.length * sz ∧ RepDs w A es.flatten vs ∧ ∀ (j : Nat) (v : Value), vs[j]? = some v → w.cell? ⟨b, o + j, none⟩ = some v
  | [], o, h => ⟨by simp, [], by simp, by simp [RepDs], by simp⟩
  | e :: r, o, h => by
    simp only [RepEs] at h
    obtain ⟨he, hc, h⟩ := h
    obtain ⟨xs, h1, h2⟩ := RepCs.values hc
    obtain ⟨hl, ys, hyl, h3, h4⟩ := RepEs.values h
    have hxl := RepDs.length h1
    refine ⟨?_, xs ++ ys, ?_, by simpa using h1.append h3, fun j v hj => ?_⟩
    · intro e' he'
      rcases List.mem_cons.1 he' with rfl | he'
      · exact he
      · exact hl e' he'
    · simp [hxl, hyl, he, Nat.add_mul]; omega
    · by_cases hlt : j < xs.length
      · rw [List.getElem?_append_left hlt] at hj; exact h2 j v hj
      · rw [List.getElem?_append_right (by omega)] at hj
        have := h4 (j - xs.length) v hj
        rwa [show o + sz + (j - xs.length) = o + j by omega] at this

/-- The i-th element. -/
theorem RepEs.get {w A b sz} : ∀ {es : List (List D)} {o : Nat}, RepEs w A b sz o es → ∀ (i : Nat) (e : List D), es[i]? = some e → e.length = sz ∧ RepCs w A b (o + i * sz) e
  | [], o, h, i, e, he => by simp at he
  | x :: r, o, h, i, e, he => by
    simp only [RepEs] at h
    obtain ⟨h1, h2, h3⟩ := h
    cases i with
    | zero => simp at he; subst he; simpa using ⟨h1, h2⟩
    | succ i =>
      have := RepEs.get h3 i e (by simpa using he)
      rwa [show o + sz + i * sz = o + (i + 1) * sz by rw [Nat.add_mul]; omega] at this

theorem RepEs.drop {w A b sz} : ∀ {es : List (List D)} {o : Nat} (n : Nat), RepEs w A b sz o es → n ≤ es.length → RepEs w A b sz (o + n * sz) (es.drop n)
  | es, o, 0, h, hn => by simpa using h
  | [], o, n + 1, h, hn => by simp at hn
  | e :: r, o, n + 1, h, hn => by
    simp only [RepEs] at h
    have := RepEs.drop n h.2.2 (by simpa using hn)
    simpa [Nat.add_mul, Nat.add_assoc, Nat.add_comm, Nat.add_left_comm] using this

theorem RepEs.take {w A b sz} : ∀ {es : List (List D)} {o : Nat} (n : Nat), RepEs w A b sz o es → RepEs w A b sz o (es.take n)
  | es, o, 0, h => by simp [RepEs]
  | [], o, n + 1, h => by simp [RepEs]
  | e :: r, o, n + 1, h => by
    simp only [RepEs] at h
    simp only [List.take_succ_cons, RepEs]
    exact ⟨h.1, h.2.1, RepEs.take n h.2.2⟩

theorem RepCs.drop {w A b} : ∀ {ds : List D} {o : Nat} (n : Nat), RepCs w A b o ds → RepCs w A b (o + n) (ds.drop n)
  | ds, o, 0, h => by simpa using h
  | [], o, n + 1, h => by simp [RepCs]
  | d :: r, o, n + 1, h => by
    simp only [RepCs] at h
    have := RepCs.drop n h.2
    simpa [Nat.add_assoc, Nat.add_comm, Nat.add_left_comm] using this

theorem RepD.oneCell {w A} {d : D} {v : Value} (h : RepD w A d v) : v.oneCell' = true := by
  cases d <;> simp only [RepD] at h
  · rw [h.1]; rfl
  · rw [h]; rfl
  · rw [h.1]; rfl
  · obtain ⟨a, cap, e, _⟩ := h; rw [e]; rfl
end Go.AX
