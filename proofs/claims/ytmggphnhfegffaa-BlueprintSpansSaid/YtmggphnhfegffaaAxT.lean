import Derived.Test.YtmggphnhfegffaaAxS
set_option linter.unusedVariables false
set_option linter.unusedSimpArgs false
namespace Go.AX

section
variable {s : St} {full : List Oper} {ρ : Nat → Rec}

theorem stp_E {done done' : Nat → Bool} {t : Nat} : ∀ m, (∀ j, j < m → (full[j]?).bind (·.dst) = some t → done j = done' j) → (stp s full ρ done m).1 t = (stp s full ρ done' m).1 t
  | 0, _ => rfl
  | m + 1, h => by
    have ih := stp_E (done := done) (done' := done') (t := t) m fun j hj => h j (by omega)
    have hp : ∀ (E : EF), (full[m]?).bind (·.dst) ≠ some t → putE E ((full[m]?).bind (·.dst)) (ρ m).r t = E t := fun E hne => by
      cases hd : (full[m]?).bind (·.dst) with
      | none => rfl
      | some d => simp only [putE]; rw [if_neg]; rintro rfl; exact hne hd
    simp only [stp]
    by_cases hd : (full[m]?).bind (·.dst) = some t
    · rw [h m (by omega) hd]
      split
      · simp only [hd, putE, if_true]
      · exact ih
    · split <;> split <;> first | exact ih | (simp only [hp _ hd]; exact ih)

theorem stp_H {done done' : Nat → Bool} {i : Nat} : ∀ m, (∀ j, j < m → i ∈ (ρ j).u.map (·.1) → done j = done' j) → (stp s full ρ done m).2 i = (stp s full ρ done' m).2 i
  | 0, _ => rfl
  | m + 1, h => by
    have ih := stp_H (done := done) (done' := done') (i := i) m fun j hj => h j (by omega)
    simp only [stp]
    by_cases hd : i ∈ (ρ m).u.map (·.1)
    · rw [h m (by omega) hd]
      split
      · simp only [updF_get, hd, if_true]
      · exact ih
    · split <;> split <;> first | exact ih | (simp only [updF_get, hd, if_false]; exact ih)

theorem stp_E_last {done : Nat → Bool} {i t : Nat} (hi : done i = true) (hd : (full[i]?).bind (·.dst) = some t) : ∀ m, i < m → (∀ j, i < j → j < m → (full[j]?).bind (·.dst) = some t → done j = false) → (stp s full ρ done m).1 t = (ρ i).r
  | 0, h, _ => by omega
  | m + 1, h, k => by
    simp only [stp]
    by_cases e : m = i
    · subst e; simp only [hi, if_true, hd, putE]
    · have ih := stp_E_last hi hd m (by omega) fun j h1 h2 => k j h1 (by omega)
      by_cases hdm : (full[m]?).bind (·.dst) = some t
      · rw [k m (by omega) (by omega) hdm]; simpa using ih
      · split
        · cases hx : (full[m]?).bind (·.dst) with
          | none => exact ih
          | some d => simp only [putE]; rw [if_neg (by rintro rfl; exact hdm hx)]; exact ih
        · exact ih

theorem stp_H_last {done : Nat → Bool} {i id : Nat} (hi : done i = true) (hd : id ∈ (ρ i).u.map (·.1)) : ∀ m, i < m → (∀ j, i < j → j < m → id ∈ (ρ j).u.map (·.1) → done j = false) → (stp s full ρ done m).2 id = hget (ρ i).u id
  | 0, h, _ => by omega
  | m + 1, h, k => by
    simp only [stp]
    by_cases e : m = i
    · subst e; simp only [hi, if_true, updF_get, hd]
    · have ih := stp_H_last hi hd m (by omega) fun j h1 h2 => k j h1 (by omega)
      by_cases hdm : id ∈ (ρ m).u.map (·.1)
      · rw [k m (by omega) (by omega) hdm]; simpa using ih
      · split
        · simp only [updF_get, hdm, if_false]; exact ih
        · exact ih

/-- Every value that a state holds comes from the begin or from an operation that is done. -/
theorem stp_E_from {done : Nat → Bool} {t : Nat} : ∀ m, (stp s full ρ done m).1 t = eget s.e t ∨ ∃ j, j < m ∧ done j = true ∧ (stp s full ρ done m).1 t = (ρ j).r
  | 0 => .inl rfl
  | m + 1 => by
    have ih := stp_E_from (done := done) (t := t) m
    simp only [stp]
    split
    · rename_i hm
      cases hx : (full[m]?).bind (·.dst) with
      | none => exact ih.imp (fun h => h) fun ⟨j, h1, h2, h3⟩ => ⟨j, by omega, h2, h3⟩
      | some d =>
        simp only [putE]
        by_cases e : t = d
        · rw [if_pos e]; exact .inr ⟨m, by omega, hm, rfl⟩
        · rw [if_neg e]; exact ih.imp (fun h => h) fun ⟨j, h1, h2, h3⟩ => ⟨j, by omega, h2, h3⟩
    · exact ih.imp (fun h => h) fun ⟨j, h1, h2, h3⟩ => ⟨j, by omega, h2, h3⟩

theorem stp_H_from {done : Nat → Bool} {i : Nat} : ∀ m, (stp s full ρ done m).2 i = hget s.h i ∨ ∃ j, j < m ∧ done j = true ∧ (stp s full ρ done m).2 i = hget (ρ j).u i
  | 0 => .inl rfl
  | m + 1 => by
    have ih := stp_H_from (done := done) (i := i) m
    simp only [stp]
    split
    · rename_i hm
      simp only [updF_get]
      by_cases e : i ∈ (ρ m).u.map (·.1)
      · rw [if_pos e]; exact .inr ⟨m, by omega, hm, rfl⟩
      · rw [if_neg e]; exact ih.imp (fun h => h) fun ⟨j, h1, h2, h3⟩ => ⟨j, by omega, h2, h3⟩
    · exact ih.imp (fun h => h) fun ⟨j, h1, h2, h3⟩ => ⟨j, by omega, h2, h3⟩
end

theorem updIds_get : ∀ {u : HL} {i : Nat} {o : AObj}, hget u i = some o → ∀ j ∈ o.ids, j ∈ updIds u
  | [], i, o, h, j, hj => by simp [hget] at h
  | (k, some o1) :: r, i, o, h, j, hj => by
    simp only [hget] at h
    simp only [updIds, List.mem_append]
    split at h
    · cases h; exact .inl hj
    · exact .inr (updIds_get h j hj)
  | (k, none) :: r, i, o, h, j, hj => by
    simp only [hget] at h
    simp only [updIds]
    split at h
    · cases h
    · exact updIds_get h j hj

theorem newIds_mem {H : HF} : ∀ {u : HL} {i : Nat} {x : AObj}, (i, some x) ∈ u → H i = none → i ∈ newIds H u
  | [], i, x, h, _ => by simp at h
  | (k, some o1) :: r, i, x, h, hn => by
    simp only [newIds, List.mem_append]
    rcases List.mem_cons.1 h with e | h
    · cases e; rw [hn]; exact .inl (by simp)
    · exact .inr (newIds_mem h hn)
  | (k, none) :: r, i, x, h, hn => by
    simp only [newIds]
    rcases List.mem_cons.1 h with e | h
    · cases e
    · exact newIds_mem h hn

/-! ### 'before' tells true -/
theorem testBit_before (ops : Array Oper) (done : Nat → Bool) (hd : ∀ i o, ops[i]? = some o → done i = true → ∀ e ∈ o.after, Region.binds .any e = true → done e.on = true) :
    ∀ i j, ((Region.before ops).getD i 0).testBit j = true → done i = true → done j = true := by
  -- over prefixes
  have key : ∀ (l : List Oper) (acc : Array Nat), (∀ k o, l[k]? = some o → ops[acc.size + k]? = some o) → (∀ i j, (acc.getD i 0).testBit j = true → done i = true → done j = true) →
      ∀ i j, ((l.foldl (fun acc o => acc.push (o.after.foldl (fun s e => if Region.binds .any e then s ||| 2 ^ e.on ||| acc.getD e.on 0 else s) 0)) acc).getD i 0).testBit j = true → done i = true → done j = true := by
    intro l
    induction l with
    | nil => intro acc _ h; exact h
    | cons o r ih =>
      intro acc hl hacc
      simp only [List.foldl_cons]
      refine ih _ (fun k o' hk => ?_) ?_
      · rw [Array.size_push, show acc.size + 1 + k = acc.size + (k + 1) by omega]
        exact hl (k + 1) o' (by simpa using hk)
      · intro i j hb hi
        rw [Array.getD_eq_getD_getElem?, Array.getElem?_push] at hb
        split at hb
        · rename_i hia
          have ho := hl 0 o (by simp)
          rw [Nat.add_zero, ← hia] at ho
          simp only [Option.getD_some] at hb
          have hdi := hd i o ho hi
          -- the inner fold
          have inner : ∀ (es : List Edge) (s : Nat), (∀ e ∈ es, Region.binds .any e = true → done e.on = true) → (s.testBit j = true → done j = true) →
              (es.foldl (fun s e => if Region.binds .any e then s ||| 2 ^ e.on ||| acc.getD e.on 0 else s) s).testBit j = true → done j = true := by
            intro es
            induction es with
            | nil => intro s _ hs h; exact hs h
            | cons e es ihe =>
              intro s he hs h
              simp only [List.foldl_cons] at h
              refine ihe _ (fun e' h' => he e' (by simp [h'])) ?_ h
              split
              · rename_i hbind
                intro ht
                rw [Nat.testBit_or, Nat.testBit_or, Bool.or_eq_true, Bool.or_eq_true, Nat.testBit_two_pow] at ht
                have hon := he e (by simp) hbind
                rcases ht with (ht | ht) | ht
                · exact hs ht
                · simp only [decide_eq_true_eq] at ht; rw [← ht]; exact hon
                · exact hacc e.on j ht hon
              · exact hs
          rw [← Array.foldl_toList] at hb
          exact inner o.after.toList 0 (fun e he hbd => hdi e (by simpa using he) hbd) (by simp) hb
        · exact hacc i j (by rw [Array.getD_eq_getD_getElem?]; exact hb) hi
  have := key ops.toList #[] (fun k o hk => by simpa using hk) (fun i j h => by simp at h)
  unfold Region.before
  rw [← Array.foldl_toList]
  exact this
end Go.AX
