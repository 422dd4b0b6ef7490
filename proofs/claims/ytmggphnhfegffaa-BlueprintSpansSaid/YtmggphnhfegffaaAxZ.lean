import Derived.Test.YtmggphnhfegffaaAxY
set_option linter.unusedVariables false
set_option linter.unusedSimpArgs false
set_option linter.unusedSectionVars false
namespace Go.AX

/-! ### other names for the objects -/
mutual
def AV.ren (π : Nat → Nat) : AV → AV
  | .box id o => .box (π id) o
  | .elt id i o n => .elt (π id) i o n
  | .arr id off len => .arr (π id) off len
  | .fn f caps => .fn f (AV.rens π caps)
  | .agg cs => .agg (AV.rens π cs)
  | .tup cs => .tup (AV.rens π cs)
  | .any => .any
  | .d x => .d x
  | .nils => .nils
  | .nilp => .nilp
  | .ref cs => .ref cs
def AV.rens (π : Nat → Nat) : List AV → List AV
  | [] => []
  | x :: r => x.ren π :: AV.rens π r
end
def AObj.ren (π : Nat → Nat) : AObj → AObj
  | .box cs => .box (AV.rens π cs)
  | .arr T sz es => .arr T sz es
def renH (π : Nat → Nat) (H : HF) : HF := fun i => (H (π i)).map (AObj.ren π)
def renL (π : Nat → Nat) : HL → HL
  | [] => []
  | (i, o) :: r => (π i, o.map (AObj.ren π)) :: renL π r

section
variable {π : Nat → Nat} (hπ : ∀ i, π (π i) = i)
include hπ
mutual
theorem RepV.ren {w A β H} : ∀ (x : AV) (v : Value), RepV w A (fun i => β (π i)) (renH π H) (x.ren π) v ↔ RepV w A β H x v
  | .any, v => by simp only [AV.ren, RepV]
  | .d x, v => by simp only [AV.ren, RepV]
  | .nils, v => by simp only [AV.ren, RepV]
  | .nilp, v => by simp only [AV.ren, RepV]
  | .ref cs, v => by simp only [AV.ren, RepV]
  | .box id o, v => by
    simp only [AV.ren, RepV, renH, hπ]
    cases H id with
    | none => simp
    | some o' => cases o' <;> simp [AObj.ren]
  | .elt id i o n, v => by
    simp only [AV.ren, RepV, renH, hπ]
    cases H id with
    | none => simp
    | some o' => cases o' <;> simp [AObj.ren]
  | .arr id off len, v => by
    simp only [AV.ren, RepV, renH, hπ]
    cases H id with
    | none => simp
    | some o' => cases o' <;> simp [AObj.ren, RepArr, hπ]
  | .fn f caps, v => by
    simp only [AV.ren, RepV]
    exact ⟨fun ⟨cs, e, h⟩ => ⟨cs, e, (RepVs.ren caps cs.toList).1 h⟩, fun ⟨cs, e, h⟩ => ⟨cs, e, (RepVs.ren caps cs.toList).2 h⟩⟩
  | .agg cs, v => by
    simp only [AV.ren, RepV]
    exact ⟨fun ⟨vs, e, h⟩ => ⟨vs, e, (RepVs.ren cs vs.toList).1 h⟩, fun ⟨vs, e, h⟩ => ⟨vs, e, (RepVs.ren cs vs.toList).2 h⟩⟩
  | .tup cs, v => by
    simp only [AV.ren, RepV]
    exact ⟨fun ⟨vs, e, h⟩ => ⟨vs, e, (RepVs.ren cs vs.toList).1 h⟩, fun ⟨vs, e, h⟩ => ⟨vs, e, (RepVs.ren cs vs.toList).2 h⟩⟩
theorem RepVs.ren {w A β H} : ∀ (xs : List AV) (vs : List Value), RepVs w A (fun i => β (π i)) (renH π H) (AV.rens π xs) vs ↔ RepVs w A β H xs vs
  | [], vs => by simp only [AV.rens, RepVs]
  | x :: r, vs => by
    simp only [AV.rens, RepVs]
    exact ⟨fun ⟨v, t, e, h1, h2⟩ => ⟨v, t, e, (RepV.ren x v).1 h1, (RepVs.ren r t).1 h2⟩, fun ⟨v, t, e, h1, h2⟩ => ⟨v, t, e, (RepV.ren x v).2 h1, (RepVs.ren r t).2 h2⟩⟩
end

theorem pi_inj {i j : Nat} (h : π i = π j) : i = j := by have := congrArg π h; rwa [hπ, hπ] at this

theorem hget_renL : ∀ (h : HL), hget (renL π h) = renH π (hget h)
  | [] => rfl
  | (j, o) :: r => by
    funext i
    have ih := congrFun (hget_renL r) i
    simp only [renL, hget, renH] at ih ⊢
    by_cases e : i = π j
    · subst e; simp [hπ]
    · rw [if_neg e, if_neg (show ¬ π i = j by rintro rfl; exact e (hπ i).symm)]
      exact ih

theorem renH_renH (H : HF) (h : ∀ i, (H i).map (fun o => (o.ren π).ren π) = H i) : renH π (renH π H) = H := by
  funext i
  simp only [renH, hπ, Option.map_map]
  exact h i

theorem renH_none {H : HF} {i : Nat} : renH π H i ≠ none ↔ H (π i) ≠ none := by
  simp only [renH]
  cases H (π i) <;> simp

theorem HRel.ren {w A β H} : HRel w A (fun i => β (π i)) (renH π H) ↔ HRel w A β H := by
  constructor
  · intro h
    refine ⟨fun id cs hi => ?_, fun id T sz es hi => ?_, fun i j b hi hj h1 h2 => ?_, fun i b hi hb => ?_, h.bound⟩
    · obtain ⟨b, c, T, h1, h2, h3⟩ := h.box (π id) (AV.rens π cs) (by simp [renH, hπ, hi, AObj.ren])
      exact ⟨b, c, T, by rwa [hπ] at h1, h2, (RepVs.ren hπ cs c.toList).1 h3⟩
    · obtain ⟨h1, h2⟩ := h.arr (π id) T sz es (by simp [renH, hπ, hi, AObj.ren])
      simp only [hπ] at h2
      exact ⟨h1, h2⟩
    · exact pi_inj hπ (h.inj (π i) (π j) b (by rw [renH_none hπ, hπ]; exact hi) (by rw [renH_none hπ, hπ]; exact hj) (by rw [hπ]; exact h1) (by rw [hπ]; exact h2))
    · exact h.sepA (π i) b (by rw [renH_none hπ, hπ]; exact hi) (by rw [hπ]; exact hb)
  · intro h
    refine ⟨fun id cs hi => ?_, fun id T sz es hi => ?_, fun i j b hi hj h1 h2 => ?_, fun i b hi hb => ?_, h.bound⟩
    · simp only [renH] at hi
      cases ho : H (π id) with
      | none => rw [ho] at hi; simp at hi
      | some o =>
        rw [ho] at hi
        cases o with
        | box cs0 =>
          simp [AObj.ren] at hi
          obtain ⟨b, c, T, h1, h2, h3⟩ := h.box (π id) cs0 ho
          exact ⟨b, c, T, h1, h2, by rw [← hi]; exact (RepVs.ren hπ cs0 c.toList).2 h3⟩
        | arr _ _ _ => simp [AObj.ren] at hi
    · simp only [renH] at hi
      cases ho : H (π id) with
      | none => rw [ho] at hi; simp at hi
      | some o =>
        rw [ho] at hi
        cases o with
        | box cs0 => simp [AObj.ren] at hi
        | arr T0 sz0 es0 =>
          simp [AObj.ren] at hi
          obtain ⟨rfl, rfl, rfl⟩ := hi
          exact h.arr (π id) _ _ _ ho
    · exact pi_inj hπ (h.inj (π i) (π j) b ((renH_none hπ).1 hi) ((renH_none hπ).1 hj) h1 h2)
    · exact h.sepA (π i) b ((renH_none hπ).1 hi) hb

theorem Keep.ren {w w' β β' i o o'} (h : Keep w w' β β' (π i) o o') : Keep w w' (fun i => β (π i)) (fun i => β' (π i)) i (o.ren π) (o'.ren π) := by
  cases o <;> cases o' <;> simp only [AObj.ren, Keep] at h ⊢ <;> exact h

theorem Trans.ren {w A β H w' A' β' H'} (h : Trans w A β H w' A' β' H') : Trans w A (fun i => β (π i)) (renH π H) w' A' (fun i => β' (π i)) (renH π H') := by
  refine ⟨h.size, h.os, h.tape, h.output, fun b hb hi => h.same b hb fun i hi' => ?_, h.mono, fun b hb => ?_, fun i b hi hb => ?_, fun i o o' ho ho' => ?_⟩
  · have := hi (π i) (by rw [renH_none hπ, hπ]; exact hi')
    simpa only [hπ] using this
  · rcases h.new b hb with h1 | h1 | ⟨i, h1, h2⟩
    · exact .inl h1
    · exact .inr (.inl h1)
    · exact .inr (.inr ⟨π i, by rw [renH_none hπ, hπ]; exact h1, by rw [hπ]; exact h2⟩)
  · rcases h.own (π i) b ((renH_none hπ).1 hi) hb with h1 | ⟨j, h1, h2⟩
    · exact .inl h1
    · exact .inr ⟨π j, by rw [renH_none hπ, hπ]; exact h1, by rw [hπ]; exact h2⟩
  · simp only [renH, Option.map_eq_some_iff] at ho ho'
    obtain ⟨o0, h1, rfl⟩ := ho
    obtain ⟨o1, h2, rfl⟩ := ho'
    exact Keep.ren hπ (h.keep (π i) o0 o1 h1 h2)

theorem ACalls.ren {P f args h r h'} (hc : ACalls P f args h r h') : ACalls P f (AV.rens π args) (renL π h) (r.ren π) (renL π h') := by
  refine ⟨hc.1, fun A β w vs hv hh => ?_⟩
  rw [hget_renL hπ] at hv hh ⊢
  have eβ : β = fun i => (fun j => β (π j)) (π i) := by funext i; simp only [hπ]
  have hv' := (RepVs.ren hπ (β := fun j => β (π j)) args vs.toList).1 (by rw [← eβ]; exact hv)
  have hh' := (HRel.ren hπ (β := fun j => β (π j))).1 (by rw [← eβ]; exact hh)
  refine Calls.mono (hc.2 A (fun j => β (π j)) w vs hv' hh') fun e w' => ?_
  rintro ⟨v, A', β', he, h1, h2, h3⟩
  refine ⟨v, A', fun i => β' (π i), he, ?_, ?_, ?_⟩
  · exact (RepV.ren hπ r v).2 h1
  · exact (HRel.ren hπ).2 h2
  · have := h3.ren hπ
    rw [← eβ] at this
    rw [hget_renL hπ]
    exact this
end

/-- Two names change places. -/
def swp (a b i : Nat) : Nat := if i = a then b else if i = b then a else i
theorem swp_swp (a b i : Nat) : swp a b (swp a b i) = i := by
  unfold swp; split <;> split <;> (try split) <;> omega
theorem ACalls.swap (a b : Nat) {P f args h r h'} (hc : ACalls P f args h r h') : ACalls P f (AV.rens (swp a b) args) (renL (swp a b) h) (r.ren (swp a b)) (renL (swp a b) h') := hc.ren (swp_swp a b)
end Go.AX
