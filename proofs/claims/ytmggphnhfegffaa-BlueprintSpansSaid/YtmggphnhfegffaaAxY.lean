import Derived.Test.YtmggphnhfegffaaAxX
set_option linter.unusedVariables false
set_option linter.unusedSimpArgs false
namespace Go.AX

/-! ### calls of functions with a body, in a region -/
section
variable {H H' : HF}
mutual
theorem view_congr : ∀ (x : AV), (∀ i ∈ x.ids, H' i = H i) → x.view H' = x.view H ∧ x.viewP H' = x.viewP H
  | .arr id off len, h => by
    simp only [AV.view, AV.viewP]
    exact ⟨by rw [avD_congr h], avDp_congr h⟩
  | .agg cs, h => by
    simp only [AV.view, AV.viewP]
    obtain ⟨h1, h2⟩ := views_congr cs (by simpa only [AV.ids] using h)
    exact ⟨by rw [h1], h2⟩
  | .tup cs, h => by
    simp only [AV.view, AV.viewP]
    obtain ⟨h1, h2⟩ := views_congr cs (by simpa only [AV.ids] using h)
    exact ⟨by rw [h1], h2⟩
  | .fn f cs, h => by
    simp only [AV.view, AV.viewP]
    obtain ⟨h1, h2⟩ := views_congr cs (by simpa only [AV.ids] using h)
    exact ⟨by rw [h1], h2⟩
  | .any, _ => by simp only [AV.view, AV.viewP, and_self]
  | .d _, _ => by simp only [AV.view, AV.viewP, and_self]
  | .nils, _ => by simp only [AV.view, AV.viewP, and_self]
  | .nilp, _ => by simp only [AV.view, AV.viewP, and_self]
  | .ref _, _ => by simp only [AV.view, AV.viewP, and_self]
  | .box _ _, _ => by simp only [AV.view, AV.viewP, and_self]
  | .elt _ _ _ _, _ => by simp only [AV.view, AV.viewP, and_self]
theorem views_congr : ∀ (xs : List AV), (∀ i ∈ AV.idsL xs, H' i = H i) → AV.views H' xs = AV.views H xs ∧ AV.viewPs H' xs = AV.viewPs H xs
  | [], _ => ⟨rfl, rfl⟩
  | x :: r, h => by
    obtain ⟨h1, h2⟩ := view_congr x fun i hi => h i (by simp [AV.idsL, hi])
    obtain ⟨h3, h4⟩ := views_congr r fun i hi => h i (by simp [AV.idsL, hi])
    simp only [AV.views, AV.viewPs, h1, h2, h3, h4, and_self]
end
mutual
theorem viewX_congr (T : List Nat) : ∀ (x : AV), (∀ i ∈ x.ids, H' i = H i) → x.viewX T H' = x.viewX T H ∧ x.viewXP T H' = x.viewXP T H
  | .arr id off len, h => by
    simp only [AV.viewX, AV.viewXP]
    exact ⟨by rw [avD_congr h], by rw [avDp_congr h]⟩
  | .agg cs, h => by
    simp only [AV.viewX, AV.viewXP]
    obtain ⟨h1, h2⟩ := viewXs_congr T cs (by simpa only [AV.ids] using h)
    exact ⟨by rw [h1], h2⟩
  | .tup cs, h => by
    simp only [AV.viewX, AV.viewXP]
    obtain ⟨h1, h2⟩ := viewXs_congr T cs (by simpa only [AV.ids] using h)
    exact ⟨by rw [h1], h2⟩
  | .fn f cs, h => by
    simp only [AV.viewX, AV.viewXP]
    obtain ⟨h1, h2⟩ := viewXs_congr T cs (by simpa only [AV.ids] using h)
    exact ⟨by rw [h1], h2⟩
  | .any, _ => by simp only [AV.viewX, AV.viewXP, and_self]
  | .d _, _ => by simp only [AV.viewX, AV.viewXP, and_self]
  | .nils, _ => by simp only [AV.viewX, AV.viewXP, and_self]
  | .nilp, _ => by simp only [AV.viewX, AV.viewXP, and_self]
  | .ref _, _ => by simp only [AV.viewX, AV.viewXP, and_self]
  | .box _ _, _ => by simp only [AV.viewX, AV.viewXP, and_self]
  | .elt _ _ _ _, _ => by simp only [AV.viewX, AV.viewXP, and_self]
theorem viewXs_congr (T : List Nat) : ∀ (xs : List AV), (∀ i ∈ AV.idsL xs, H' i = H i) → AV.viewXs T H' xs = AV.viewXs T H xs ∧ AV.viewXPs T H' xs = AV.viewXPs T H xs
  | [], _ => ⟨rfl, rfl⟩
  | x :: r, h => by
    obtain ⟨h1, h2⟩ := viewX_congr T x fun i hi => h i (by simp [AV.idsL, hi])
    obtain ⟨h3, h4⟩ := viewXs_congr T r fun i hi => h i (by simp [AV.idsL, hi])
    simp only [AV.viewXs, AV.viewXPs, h1, h2, h3, h4, and_self]
end
end

/-- Names not in use. -/
def newNames (nb : Nat) (s : St) : List Nat → Prop
  | [] => True
  | i :: r => (nb ≤ i ∧ hget s.h i = none ∧ freshE i s.e ∧ freshH i s.h) ∧ newNames nb s r
theorem newNames_get {nb s} : ∀ {l : List Nat}, newNames nb s l → ∀ i ∈ l, nb ≤ i ∧ hget s.h i = none ∧ freshE i s.e ∧ freshH i s.h
  | [], _, i, h => by simp at h
  | j :: r, hn, i, h => by
    rcases List.mem_cons.1 h with rfl | h
    · exact hn.1
    · exact newNames_get hn.2 i h
theorem arrsOnly_mem : ∀ {u : HL}, arrsOnly u → ∀ i ∈ u.map (·.1), ∃ x, (i, some x) ∈ u
  | [], _, i, h => by simp at h
  | (j, some (.arr T sz es)) :: r, hu, i, h => by
    rcases List.mem_cons.1 h with rfl | h
    · exact ⟨_, by simp; exact .inl rfl⟩
    · obtain ⟨x, hx⟩ := arrsOnly_mem (u := r) hu i h
      exact ⟨x, List.mem_cons_of_mem _ hx⟩
  | (j, none) :: r, hu, _, _ => by simp only [arrsOnly] at hu
  | (j, some (.box _)) :: r, hu, _, _ => by simp only [arrsOnly] at hu
theorem freshU_of {nb s} : ∀ {u : HL}, (∀ i x, (i, some x) ∈ u → hget s.h i ≠ none ∨ (nb ≤ i ∧ freshE i s.e ∧ freshH i s.h)) → freshU nb s u
  | [], _ => trivial
  | (i, some x) :: r, h => ⟨h i x (by simp), freshU_of fun j y hy => h j y (List.mem_cons_of_mem _ hy)⟩
  | (i, none) :: r, h => by simp only [freshU]; exact freshU_of fun j y hy => h j y (List.mem_cons_of_mem _ hy)

theorem call_eval {fo : Operand} {args : Array Operand} {ts : Array Nat} {E E' : EF} (he : ∀ x ∈ (Op.call { callee := .value fo, args := args, argTypes := ts }).operands, evalA E' x = evalA E x) :
    evalA E' fo = evalA E fo ∧ args.toList.map (evalA E') = args.toList.map (evalA E) := by
  have h1 : ∀ x, x = fo ∨ x ∈ args → evalA E' x = evalA E x := fun x hx => he x (by simp only [Op.operands, Call.operands]; simpa using hx)
  exact ⟨h1 fo (.inl rfl), List.map_congr_left fun x hx => h1 x (.inr (by simpa using hx))⟩

section
variable {P : Program} {n nb : Nat} {full r : List Oper} {s : St} {lg : Log} {K : Log → St → Prop} {d : Option Nat} {t : Nat} {p : String} {e : Array Edge}
  {fo : Operand} {args : Array Operand} {ts : Array Nat}

/-- A callee that gets no object, nothing is lent to it; it may make arrays. -/
theorem VCl.pure {f : FuncId} {caps args' : List AV} {res : AV} {u : HL} (hf : evalA (eget s.e) fo = .fn f caps) (hv : AV.views (hget s.h) (args.toList.map (evalA (eget s.e)) ++ caps) = args')
    (hc : ACalls P f args' [] res u) (hp : AV.viewPs (hget s.h) (args.toList.map (evalA (eget s.e)) ++ caps)) (hi : AV.idsL (args.toList.map (evalA (eget s.e)) ++ caps) = [])
    (hd : dstOk n d) (hu : arrsOnly u) (hr : ∀ i ∈ res.ids, i ∈ u.map (·.1)) (hnew : newNames nb s (u.map (·.1)))
    (hK : VOps P n nb full r (s.step d res u) (addLog lg false (u.map (·.1) ++ u.map (·.1)) (res.ids ++ updIds u) (u.map (·.1)) (newIds (hget s.h) u)) K) :
    VCl P n nb full ⟨d, .call { callee := .value fo, args := args, argTypes := ts }, t, p, e, none⟩ r s lg K := by
  refine ⟨res, u, false, u.map (·.1), fun E' H' he _ hT hfr => ?_, hd, freshU_of fun i x hx => .inr ?_, hK⟩
  · obtain ⟨e1, e2⟩ := call_eval he
    have hid : ∀ i ∈ AV.idsL (args.toList.map (evalA (eget s.e)) ++ caps), H' i = hget s.h i := by rw [hi]; simp
    obtain ⟨v1, v2⟩ := views_congr _ hid
    refine sem_callPure (by cases d <;> simp_all [dstOk]) (by rw [e1, hf]) hc (by rw [e2, v1, hv]) (by rw [e2, v2]; exact hp) (by rw [e2, hi]) hu hr fun i hm => ?_
    obtain ⟨x, hx⟩ := arrsOnly_mem hu i hm
    exact hfr i x hx (by rw [hT i hm]; exact (newNames_get hnew i hm).2.1)
  · have := newNames_get hnew i (List.mem_map.2 ⟨(i, some x), hx, rfl⟩)
    exact ⟨this.1, this.2.2⟩

/-- A callee that gets no object, arrays are lent to it as data; it may make arrays of flat elements. -/
theorem VCl.lent {f : FuncId} {caps args' : List AV} {res : AV} {u : HL} (hf : evalA (eget s.e) fo = .fn f caps) (hv : AV.views (hget s.h) (args.toList.map (evalA (eget s.e)) ++ caps) = args')
    (hc : ACalls P f args' [] res u) (hp : AV.viewPs (hget s.h) (args.toList.map (evalA (eget s.e)) ++ caps))
    (hd : dstOk n d) (hfl : res.flat = true) (hu : arrsOnly u) (hfu : flatObjs u) (hr : ∀ i ∈ res.ids, i ∈ u.map (·.1)) (hnew : newNames nb s (u.map (·.1)))
    (hK : VOps P n nb full r (s.step d res u) (addLog lg false ((AV.idsL (args.toList.map (evalA (eget s.e)) ++ caps) ++ u.map (·.1)) ++ u.map (·.1)) (res.ids ++ updIds u) (u.map (·.1)) (newIds (hget s.h) u)) K) :
    VCl P n nb full ⟨d, .call { callee := .value fo, args := args, argTypes := ts }, t, p, e, none⟩ r s lg K := by
  refine ⟨res, u, false, AV.idsL (args.toList.map (evalA (eget s.e)) ++ caps) ++ u.map (·.1), fun E' H' he _ hT hfr => ?_, hd, freshU_of fun i x hx => .inr ?_, hK⟩
  · obtain ⟨e1, e2⟩ := call_eval he
    obtain ⟨v1, v2⟩ := views_congr (args.toList.map (evalA (eget s.e)) ++ caps) fun i hi => hT i (List.mem_append.2 (.inl hi))
    refine sem_callLent (by cases d <;> simp_all [dstOk]) (by rw [e1, hf]) hc (by rw [e2, v1, hv]) (by rw [e2, v2]; exact hp) hfl hu hfu hr fun i hm => ?_
    obtain ⟨x, hx⟩ := arrsOnly_mem hu i hm
    exact hfr i x hx (by rw [hT i (List.mem_append.2 (.inr hm))]; exact (newNames_get hnew i hm).2.1)
  · have := newNames_get hnew i (List.mem_map.2 ⟨(i, some x), hx, rfl⟩)
    exact ⟨this.1, this.2.2⟩
end

def allSome : HL → Prop
  | [] => True
  | (_, some _) :: r => allSome r
  | (_, none) :: _ => False
theorem allSome_mem : ∀ {u : HL}, allSome u → ∀ i ∈ u.map (·.1), ∃ x, (i, some x) ∈ u
  | [], _, i, h => by simp at h
  | (j, some o) :: r, hu, i, h => by
    rcases List.mem_cons.1 h with rfl | h
    · exact ⟨_, by simp; exact .inl rfl⟩
    · obtain ⟨x, hx⟩ := allSome_mem (u := r) hu i h
      exact ⟨x, List.mem_cons_of_mem _ hx⟩
  | (j, none) :: r, hu, _, _ => by simp only [allSome] at hu
theorem subOf_congr {H H' : HF} : ∀ {h : HL}, subOf H h → (∀ i ∈ h.map (·.1), H' i = H i) → subOf H' h
  | [], _, _ => trivial
  | (i, some o) :: r, hs, hh => ⟨by rw [hh i (by simp)]; exact hs.1, subOf_congr hs.2 fun j hj => hh j (by simp at hj ⊢; exact .inr hj)⟩
  | (_, none) :: _, hs, _ => by simp only [subOf] at hs
/-- Each name is one of the callee's, or new. -/
def newOrOld (nb : Nat) (s : St) (old : List Nat) : List Nat → Prop
  | [] => True
  | i :: r => (i ∈ old ∨ (nb ≤ i ∧ hget s.h i = none ∧ freshE i s.e ∧ freshH i s.h)) ∧ newOrOld nb s old r
theorem newOrOld_get {nb s old} : ∀ {l : List Nat}, newOrOld nb s old l → ∀ i ∈ l, i ∈ old ∨ (nb ≤ i ∧ hget s.h i = none ∧ freshE i s.e ∧ freshH i s.h)
  | [], _, i, h => by simp at h
  | j :: r, hn, i, h => by
    rcases List.mem_cons.1 h with rfl | h
    · exact hn.1
    · exact newOrOld_get hn.2 i h

section
variable {P : Program} {n nb : Nat} {full r : List Oper} {s : St} {lg : Log} {K : Log → St → Prop} {d : Option Nat} {t : Nat} {p : String} {e : Array Edge}
  {fo : Operand} {args : Array Operand} {ts : Array Nat}
/-- A callee that gets the objects 'hc'; other arrays are frozen ('fz'). -/
theorem VCl.sub {f : FuncId} {caps args' : List AV} {res : AV} (hc : HL) {h' : HL} (fz : List Nat) (hf : evalA (eget s.e) fo = .fn f caps) (hv : AV.viewXs (hc.map (·.1)) (hget s.h) (args.toList.map (evalA (eget s.e)) ++ caps) = args')
    (hcall : ACalls P f args' hc res h') (hsub : subOf (hget s.h) hc) (hp : AV.viewXPs (hc.map (·.1)) (hget s.h) (args.toList.map (evalA (eget s.e)) ++ caps))
    (hfz : ∀ i ∈ AV.idsL (args.toList.map (evalA (eget s.e)) ++ caps), i ∉ hc.map (·.1) → i ∈ fz) (hfz' : ∀ i ∈ fz, i ∉ hc.map (·.1) ∧ i ∉ h'.map (·.1))
    (hcl0 : closedIn (hc.map (·.1)) hc) (hcl : closedIn (h'.map (·.1)) h') (hr : ∀ i ∈ res.ids, i ∈ h'.map (·.1)) (hall : allSome h') (hd : dstOk n d)
    (hnew : newOrOld nb s (hc.map (·.1)) (h'.map (·.1)))
    (hK : VOps P n nb full r (s.step d res (h' ++ (hc.map fun x => (x.1, none)) ++ fz.map fun i => (i, none)))
      (addLog lg false ((AV.idsL (args.toList.map (evalA (eget s.e)) ++ caps) ++ (hc.map (·.1) ++ h'.map (·.1))) ++ ((h' ++ (hc.map fun x => (x.1, none)) ++ fz.map fun i => (i, none) : HL)).map (·.1)) (res.ids ++ updIds (h' ++ (hc.map fun x => (x.1, none)) ++ fz.map fun i => (i, none)))
        (((h' ++ (hc.map fun x => (x.1, none)) ++ fz.map fun i => (i, none) : HL)).map (·.1)) (newIds (hget s.h) (h' ++ (hc.map fun x => (x.1, none)) ++ fz.map fun i => (i, none)))) K) :
    VCl P n nb full ⟨d, .call { callee := .value fo, args := args, argTypes := ts }, t, p, e, none⟩ r s lg K := by
  have hsome : ∀ i x, (i, some x) ∈ (h' ++ (hc.map fun (x : Nat × Option AObj) => (x.1, none)) ++ fz.map fun i => (i, none) : HL) → i ∈ h'.map (·.1) := by
    intro i x hx
    simp only [List.mem_append, List.mem_map] at hx
    rcases hx with (hx | ⟨_, _, hx⟩) | ⟨_, _, hx⟩
    · exact List.mem_map.2 ⟨_, hx, rfl⟩
    · simp at hx
    · simp at hx
  refine ⟨res, _, false, AV.idsL (args.toList.map (evalA (eget s.e)) ++ caps) ++ (hc.map (·.1) ++ h'.map (·.1)), fun E' H' he _ hT hfr => ?_, hd, freshU_of fun i x hx => ?_, hK⟩
  · obtain ⟨e1, e2⟩ := call_eval he
    obtain ⟨v1, v2⟩ := viewXs_congr (hc.map (·.1)) (args.toList.map (evalA (eget s.e)) ++ caps) fun i hi => hT i (List.mem_append.2 (.inl hi))
    refine sem_callSub (by cases d <;> simp_all [dstOk]) (by rw [e1, hf]) hcall (subOf_congr hsub fun i hi => hT i (List.mem_append.2 (.inr (List.mem_append.2 (.inl hi))))) (by rw [e2, v1, hv]) (by rw [e2, v2]; exact hp) (by rw [e2]; exact hfz) hfz' hcl0 hcl hr fun i hm hn => ?_
    obtain ⟨x, hx⟩ := allSome_mem hall i hm
    refine hfr i x (List.mem_append.2 (.inl (List.mem_append.2 (.inl hx)))) ?_
    rw [hT i (List.mem_append.2 (.inr (List.mem_append.2 (.inr hm))))]
    rcases newOrOld_get hnew i hm with h1 | h1
    · exact absurd h1 hn
    · exact h1.2.1
  · rcases newOrOld_get hnew i (hsome i x hx) with h1 | h1
    · exact .inl ((subOf_get hsub).2 i h1)
    · exact .inr ⟨h1.1, h1.2.2⟩
end
end Go.AX
