import Derived.Test.YtmggphnhfegffaaAxN
set_option linter.unusedVariables false
set_option linter.unusedSimpArgs false
namespace Go.AX

section congr
variable {H H' : HF}

theorem ok1_congr {x : AV} (h : ∀ i ∈ x.ids, H' i = H i) : x.ok1 H' = x.ok1 H := by
  cases x <;> simp [AV.ids, AV.ok1] at h ⊢ <;> rw [h]
theorem ok2_congr {x : AV} (h : ∀ i ∈ x.ids, H' i = H i) : x.ok2 H' = x.ok2 H := by
  cases x <;> simp only [AV.ok2] <;> exact ok1_congr h
theorem okL_congr : ∀ {xs : List AV}, (∀ i ∈ AV.idsL xs, H' i = H i) → okL H' xs = okL H xs
  | [], _ => rfl
  | x :: r, h => by
    simp only [okL, AV.idsL, List.mem_append] at h ⊢
    rw [ok2_congr fun i hi => h i (.inl hi), okL_congr fun i hi => h i (.inr hi)]
theorem avD_congr {x : AV} (h : ∀ i ∈ x.ids, H' i = H i) : avD H' x = avD H x := by
  cases x with
  | box id o => have e := h id (by simp [AV.ids]); simp only [avD, e]
  | elt id i o n => have e := h id (by simp [AV.ids]); simp only [avD, e]
  | arr id off len => have e := h id (by simp [AV.ids]); simp only [avD, e]
  | _ => rfl
theorem avDp_congr {x : AV} (h : ∀ i ∈ x.ids, H' i = H i) : avDp H' x = avDp H x := by
  cases x with
  | box id o => have e := h id (by simp [AV.ids]); simp only [avDp, e]
  | elt id i o n => have e := h id (by simp [AV.ids]); simp only [avDp, e]
  | arr id off len => have e := h id (by simp [AV.ids]); simp only [avDp, e]
  | _ => rfl
theorem avDps_congr : ∀ {xs : List AV}, (∀ i ∈ AV.idsL xs, H' i = H i) → avDps H' xs = avDps H xs
  | [], _ => rfl
  | x :: r, h => by
    simp only [avDps, AV.idsL, List.mem_append] at h ⊢
    rw [avDp_congr fun i hi => h i (.inl hi), avDps_congr fun i hi => h i (.inr hi)]
theorem avDs_congr : ∀ {xs : List AV}, (∀ i ∈ AV.idsL xs, H' i = H i) → xs.map (avD H') = xs.map (avD H)
  | [], _ => rfl
  | x :: r, h => by
    simp only [List.map_cons, AV.idsL, List.mem_append] at h ⊢
    rw [avD_congr fun i hi => h i (.inl hi), avDs_congr fun i hi => h i (.inr hi)]
theorem esOf_congr {x : AV} (h : ∀ i ∈ x.ids, H' i = H i) : esOf H' x = esOf H x := by
  cases x with
  | box id o => have e := h id (by simp [AV.ids]); simp only [esOf, e]
  | elt id i o n => have e := h id (by simp [AV.ids]); simp only [esOf, e]
  | arr id off len => have e := h id (by simp [AV.ids]); simp only [esOf, e]
  | d y => cases y <;> rfl
  | _ => rfl
theorem esOfP_congr {x : AV} (h : ∀ i ∈ x.ids, H' i = H i) : esOfP H' x = esOfP H x := by
  cases x with
  | box id o => have e := h id (by simp [AV.ids]); simp only [esOfP, e]
  | elt id i o n => have e := h id (by simp [AV.ids]); simp only [esOfP, e]
  | arr id off len => have e := h id (by simp [AV.ids]); simp only [esOfP, e]
  | d y => cases y <;> rfl
  | _ => rfl
theorem fillP_congr (place : Nat → Option (Nat × Nat)) : ∀ (ps : List (Nat × AV)) (cs : List AV), (∀ i ∈ AV.idsL (ps.map (·.2)), H' i = H i) → fillP H' place cs ps = fillP H place cs ps
  | [], _, _ => rfl
  | (i, x) :: r, cs, h => by
    simp only [List.map_cons, AV.idsL, List.mem_append] at h
    simp only [fillP]
    cases place i with
    | none => rfl
    | some os =>
      obtain ⟨off, sz⟩ := os
      simp only
      rw [ok1_congr fun i hi => h i (.inl hi), fillP_congr place r _ fun i hi => h i (.inr hi)]
theorem elP_congr (sz : Nat) : ∀ (ps : List (Nat × AV)), (∀ i ∈ AV.idsL (ps.map (·.2)), H' i = H i) → elP H' sz ps = elP H sz ps
  | [], _ => rfl
  | (i, x) :: r, h => by
    simp only [List.map_cons, AV.idsL, List.mem_append] at h
    simp only [elP]
    rw [ok1_congr fun i hi => h i (.inl hi), elP_congr sz r fun i hi => h i (.inr hi), avDps_congr fun i hi => h i (.inl (by rwa [AV.ids_cells] at hi))]
theorem elD_congr : ∀ (ps : List (Nat × AV)), (∀ i ∈ AV.idsL (ps.map (·.2)), H' i = H i) → (ps.map fun p => p.2.cells.map (avD H')) = ps.map fun p => p.2.cells.map (avD H)
  | [], _ => rfl
  | (i, x) :: r, h => by
    simp only [List.map_cons, AV.idsL, List.mem_append] at h
    simp only [List.map_cons]
    rw [elD_congr r fun i hi => h i (.inr hi), avDs_congr fun i hi => h i (.inl (by rwa [AV.ids_cells] at hi))]

theorem aNilCheck_congr {x : AV} (h : ∀ i ∈ x.ids, H' i = H i) : aNilCheck x H' = aNilCheck x H := by
  cases x with
  | box id o => have e := h id (by simp [AV.ids]); simp only [aNilCheck, e]
  | elt id i o n => have e := h id (by simp [AV.ids]); simp only [aNilCheck, e]
  | arr id off len => have e := h id (by simp [AV.ids]); simp only [aNilCheck, e]
  | _ => rfl
theorem aFieldAddr_congr {P s f} {x : AV} (h : ∀ i ∈ x.ids, H' i = H i) : aFieldAddr P s x f H' = aFieldAddr P s x f H := by
  cases x with
  | box id o => have e := h id (by simp [AV.ids]); simp only [aFieldAddr, e]
  | elt id i o n => have e := h id (by simp [AV.ids]); simp only [aFieldAddr, e]
  | arr id off len => have e := h id (by simp [AV.ids]); simp only [aFieldAddr, e]
  | _ => rfl
theorem aLoad_congr {P t} {x : AV} (h : ∀ i ∈ x.ids, H' i = H i) : aLoad P t x H' = aLoad P t x H := by
  cases x with
  | box id o => have e := h id (by simp [AV.ids]); simp only [aLoad, e]
  | elt id i o n => have e := h id (by simp [AV.ids]); simp only [aLoad, e]
  | arr id off len => have e := h id (by simp [AV.ids]); simp only [aLoad, e]
  | _ => rfl
theorem aStore_congr {P t} {x y : AV} (h : ∀ i ∈ x.ids ++ y.ids, H' i = H i) : aStore P t x y H' = aStore P t x y H := by
  have hx : ∀ i ∈ x.ids, H' i = H i := fun i hi => h i (List.mem_append.2 (.inl hi))
  have hy : ∀ i ∈ y.ids, H' i = H i := fun i hi => h i (List.mem_append.2 (.inr hi))
  have hy2 : ∀ i ∈ AV.idsL y.cells, H' i = H i := by rw [AV.ids_cells]; exact hy
  unfold aStore
  cases x <;> simp only [AV.ids, List.mem_singleton, forall_eq] at hx ⊢
  · rw [hx, ok1_congr hy, okL_congr hy2]
  · rw [hx, ok1_congr hy, avDps_congr hy2, avDs_congr hy2]
theorem aIndexAddr_congr {P t} {x j : AV} (h : ∀ i ∈ x.ids, H' i = H i) : aIndexAddr P t x j H' = aIndexAddr P t x j H := by
  cases x with
  | arr id off len =>
    have e := h id (by simp [AV.ids])
    cases j with
    | d y => cases y <;> first | rfl | simp only [aIndexAddr, e]
    | _ => rfl
  | d z =>
    cases j with
    | d y => cases z <;> cases y <;> rfl
    | _ => cases z <;> rfl
  | _ => cases j <;> rfl
theorem aSlice_congr {P t lo hi} {x : AV} (h : ∀ i ∈ x.ids, H' i = H i) : aSlice P t x lo hi H' = aSlice P t x lo hi H := by
  cases x with
  | box id o => have e := h id (by simp [AV.ids]); simp only [aSlice, e]
  | elt id i o n => have e := h id (by simp [AV.ids]); simp only [aSlice, e]
  | arr id off len => have e := h id (by simp [AV.ids]); simp only [aSlice, e]
  | d y => cases y <;> rfl
  | _ => rfl
theorem aSlice0_congr {P t hi mx} {x : AV} (h : ∀ i ∈ x.ids, H' i = H i) : aSlice0 P t x hi mx H' = aSlice0 P t x hi mx H := by
  cases x with
  | box id o => have e := h id (by simp [AV.ids]); simp only [aSlice0, e]
  | elt id i o n => have e := h id (by simp [AV.ids]); simp only [aSlice0, e]
  | arr id off len => have e := h id (by simp [AV.ids]); simp only [aSlice0, e]
  | d y => cases y <;> (unfold aSlice0; rfl)
  | _ => rfl
theorem aLen_congr {P t} {x : AV} (h : ∀ i ∈ x.ids, H' i = H i) : aLen P t x H' = aLen P t x H := by
  cases x with
  | box id o => have e := h id (by simp [AV.ids]); simp only [aLen, e]
  | elt id i o n => have e := h id (by simp [AV.ids]); simp only [aLen, e]
  | arr id off len => have e := h id (by simp [AV.ids]); simp only [aLen, e]
  | d y => cases y <;> rfl
  | _ => rfl
theorem aBox_congr {nm} {x : AV} (h : ∀ i ∈ x.ids, H' i = H i) : aBox nm x H' = aBox nm x H := by
  unfold aBox; rw [ok1_congr h]
theorem aBuild_congr {P t ps} (h : ∀ i ∈ AV.idsL (ps.map (·.2)), H' i = H i) : aBuild P t ps H' = aBuild P t ps H := by
  unfold aBuild
  simp only [fillP_congr _ ps _ h]
theorem aBuildSlice_congr {P nm t len ps} (h : ∀ i ∈ AV.idsL (ps.map (·.2)), H' i = H i) : aBuildSlice P nm t len ps H' = aBuildSlice P nm t len ps H := by
  unfold aBuildSlice
  rw [elP_congr _ ps h, elD_congr ps h]
theorem aAppend_congr {P nm t} {x y : AV} (hn : H' nm = H nm) (h : ∀ i ∈ x.ids ++ y.ids, H' i = H i) : aAppend P nm t x y H' = aAppend P nm t x y H := by
  have hx : ∀ i ∈ x.ids, H' i = H i := fun i hi => h i (List.mem_append.2 (.inl hi))
  have hy : ∀ i ∈ y.ids, H' i = H i := fun i hi => h i (List.mem_append.2 (.inr hi))
  have e1 := esOf_congr hy
  have e2 := esOfP_congr hy
  cases x with
  | nils => simp only [aAppend, e1, e2, hn]
  | arr id off len =>
    have e := hx id (by simp [AV.ids])
    cases off with
    | zero => simp only [aAppend, e, e1, e2]
    | succ k => rfl
  | _ => rfl
end congr

theorem outOf_congr {P nb} {o : Oper} {E E' : EF} {H H' : HF} (he : ∀ x ∈ o.op.operands, evalA E' x = evalA E x) (hh : ∀ i ∈ (outOf P nb o E H).2, H' i = H i) :
    outOf P nb o E' H' = outOf P nb o E H := by
  obtain ⟨dst, op, type, pos, after, guard⟩ := o
  have pairs : ∀ ps : List (Nat × Operand), (∀ x ∈ ps.map (·.2), evalA E' x = evalA E x) → (ps.map fun p => (p.1, evalA E' p.2)) = ps.map fun p => (p.1, evalA E p.2) := fun ps hp =>
    List.map_congr_left fun p hm => by rw [hp p.2 (List.mem_map.2 ⟨p, hm, rfl⟩)]
  have pairs2 : ∀ ps : List (Nat × Operand), (∀ x ∈ ps.map (·.2), evalA E' x = evalA E x) → (ps.map fun p => evalA E' p.2) = ps.map fun p => evalA E p.2 := fun ps hp =>
    List.map_congr_left fun p hm => by rw [hp p.2 (List.mem_map.2 ⟨p, hm, rfl⟩)]
  have snd : ∀ ps : List (Nat × Operand), (ps.map fun p => (p.1, evalA E p.2)).map (·.2) = ps.map fun p => evalA E p.2 := fun ps => by simp [Function.comp_def]
  cases op with
  | move x => have := he x (by simp [Op.operands]); simp only [outOf, this]
  | assign x => have := he x (by simp [Op.operands]); simp only [outOf, this]
  | pick c x y =>
    have h1 := he c (by simp [Op.operands]); have h2 := he x (by simp [Op.operands]); have h3 := he y (by simp [Op.operands])
    simp only [outOf, h1, h2, h3]
  | binOp b t x y u =>
    have h1 := he x (by simp [Op.operands]); have h2 := he y (by simp [Op.operands])
    simp only [outOf, h1, h2]
  | unOp b t x => have := he x (by simp [Op.operands]); simp only [outOf, this]
  | extract x i => have := he x (by simp [Op.operands]); simp only [outOf, this]
  | makeFunc f first caps =>
    have h1 : first.toList.map (evalA E') = first.toList.map (evalA E) := List.map_congr_left fun x hx => he x (by simp [Op.operands]; exact .inl (by simpa using hx))
    have h2 : caps.toList.map (evalA E') = caps.toList.map (evalA E) := List.map_congr_left fun x hx => he x (by simp [Op.operands]; exact .inr (by simpa using hx))
    simp only [outOf, h1, h2]
  | convert a b x => have := he x (by simp [Op.operands]); simp only [outOf, this]
  | nilCheck x =>
    have h1 := he x (by simp [Op.operands])
    simp only [outOf] at hh ⊢
    rw [h1, aNilCheck_congr hh]
  | fieldAddr s x f =>
    have h1 := he x (by simp [Op.operands])
    simp only [outOf] at hh ⊢
    rw [h1, aFieldAddr_congr hh]
  | field s x f => have := he x (by simp [Op.operands]); simp only [outOf, this]
  | load t x =>
    have h1 := he x (by simp [Op.operands])
    simp only [outOf] at hh ⊢
    rw [h1, aLoad_congr hh]
  | store t x y =>
    have h1 := he x (by simp [Op.operands]); have h2 := he y (by simp [Op.operands])
    simp only [outOf] at hh ⊢
    rw [h1, h2, aStore_congr hh]
  | indexAddr t x i =>
    have h1 := he x (by simp [Op.operands]); have h2 := he i (by simp [Op.operands])
    simp only [outOf] at hh ⊢
    rw [h1, h2, aIndexAddr_congr hh]
  | index t x i =>
    have h1 := he x (by simp [Op.operands]); have h2 := he i (by simp [Op.operands])
    simp only [outOf, h1, h2]
  | slice t x lo hi mx =>
    have h1 := he x (by simp [Op.operands])
    cases mx with
    | none =>
      have h2 : lo.map (evalA E') = lo.map (evalA E) := by
        cases lo with
        | none => rfl
        | some y => simp [he y (by simp [Op.operands])]
      have h3 : hi.map (evalA E') = hi.map (evalA E) := by
        cases hi with
        | none => rfl
        | some y => simp [he y (by simp [Op.operands])]
      simp only [outOf] at hh ⊢
      rw [h1, h2, h3, aSlice_congr hh]
    | some m =>
      have h4 := he m (by simp [Op.operands])
      cases hi with
      | none => cases lo <;> rfl
      | some z =>
        have h3 := he z (by simp [Op.operands])
        cases lo with
        | some l => rfl
        | none =>
          simp only [outOf] at hh ⊢
          rw [h1, h3, h4, aSlice0_congr hh]
  | alloc t =>
    simp only [outOf, List.mem_singleton, forall_eq] at hh ⊢
    simp only [aNew, hh]
  | box t x =>
    have h1 := he x (by simp [Op.operands])
    simp only [outOf, List.mem_cons, forall_eq_or_imp] at hh ⊢
    rw [h1, aBox_congr hh.2]
    simp only [aNew, hh.1]
  | build t ps =>
    have h1 := pairs ps.toList fun x hx => he x (by simpa [Op.operands] using hx)
    have h2 := pairs2 ps.toList fun x hx => he x (by simpa [Op.operands] using hx)
    simp only [outOf] at hh ⊢
    rw [h1, h2, aBuild_congr (by rw [snd]; exact hh)]
  | buildSlice t len ps =>
    have h1 := pairs ps.toList fun x hx => he x (by simpa [Op.operands] using hx)
    have h2 := pairs2 ps.toList fun x hx => he x (by simpa [Op.operands] using hx)
    simp only [outOf, List.mem_cons, forall_eq_or_imp] at hh ⊢
    rw [h1, h2, aBuildSlice_congr (by rw [snd]; exact hh.2)]
    simp only [aNew, hh.1]
  | makeSlice t l c =>
    have h1 := he l (by simp [Op.operands]); have h2 := he c (by simp [Op.operands])
    simp only [outOf, List.mem_singleton, forall_eq] at hh ⊢
    simp only [aNew, hh, h1, h2]
  | call c =>
    obtain ⟨callee, args, ts⟩ := c
    have hargs : ∀ x ∈ args, evalA E' x = evalA E x := fun x hx => he x (by simp [Op.operands, Call.operands]; exact .inr hx)
    cases callee with
    | value f => rfl
    | invoke r m => rfl
    | builtin b =>
      obtain ⟨l⟩ := args
      obtain ⟨ts⟩ := ts
      cases b <;> try rfl
      · match l, ts, hargs, hh with
        | [x, y], [t, u], hargs, hh =>
          have h1 := hargs x (by simp); have h2 := hargs y (by simp)
          simp only [outOf, List.mem_cons, forall_eq_or_imp] at hh ⊢
          rw [h1, h2, aAppend_congr hh.1 hh.2]
        | [], _, _, _ => rfl
        | [_], _, _, _ => rfl
        | [_, _], [], _, _ => rfl
        | [_, _], [_], _, _ => rfl
        | [_, _], _ :: _ :: _ :: _, _, _ => rfl
        | _ :: _ :: _ :: _, _, _, _ => rfl
      · match l, ts, hargs, hh with
        | [x], [t], hargs, hh =>
          have h1 := hargs x (by simp)
          simp only [outOf] at hh ⊢
          rw [h1, aLen_congr hh]
        | [], _, _, _ => rfl
        | _ :: _ :: _, _, _, _ => rfl
        | [_], [], _, _ => rfl
        | [_], _ :: _ :: _, _, _ => rfl
      · match l, hargs with
        | [x, y], hargs =>
          have h1 := hargs x (by simp); have h2 := hargs y (by simp)
          simp only [outOf, h1, h2]
        | [], _ => rfl
        | [_], _ => rfl
        | _ :: _ :: _ :: _, _ => rfl
      · match l, hargs with
        | [x, y], hargs =>
          have h1 := hargs x (by simp); have h2 := hargs y (by simp)
          simp only [outOf, h1, h2]
        | [], _ => rfl
        | [_], _ => rfl
        | _ :: _ :: _ :: _, _ => rfl
  | _ => rfl
end Go.AX
