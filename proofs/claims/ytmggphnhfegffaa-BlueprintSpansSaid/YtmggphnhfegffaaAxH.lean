import Derived.Test.YtmggphnhfegffaaAxG
set_option linter.unusedVariables false
set_option linter.unusedSimpArgs false
namespace Go.AX

/-! ### load -/
def aLoad (P : Program) (t : Nat) (x : AV) (H : HF) : Out :=
  match x with
  | .ref cs => ⟨(mkTI P t).k ≠ .other ∧ (mkTI P t).size ≠ 0 ∧ (mkTI P t).size ≤ cs.length, cut (mkTI P t).isAgg 0 (mkTI P t).size (cs.map AV.d), []⟩
  | .box id o => match H id with
    | some (.box cs) => ⟨(mkTI P t).k ≠ .other ∧ (mkTI P t).size ≠ 0 ∧ o + (mkTI P t).size ≤ cs.length, cut (mkTI P t).isAgg o (mkTI P t).size cs, []⟩
    | _ => fail
  | .elt id i o m => match H id with
    | some (.arr _ sz es) => ⟨(mkTI P t).k ≠ .other ∧ (mkTI P t).size ≠ 0 ∧ m = es.length ∧ i < es.length ∧ o + (mkTI P t).size ≤ sz, cut (mkTI P t).isAgg o (mkTI P t).size ((es.getD i []).map AV.d), []⟩
    | _ => fail
  | _ => fail

theorem run_loadVar {P : Program} {w : World} {A β H} {t b o : Nat} {cs : List AV} {vs : List Value} (hk : (mkTI P t).k ≠ .other) (hs : (mkTI P t).size ≠ 0)
    (hr : RepVs w A β H cs vs) (hc : ∀ (j : Nat) (v : Value), vs[j]? = some v → w.cell? ⟨b, o + j, none⟩ = some v) (hl : (mkTI P t).size ≤ cs.length) :
    ∃ v, (loadVar t ⟨b, o, none⟩).run P w = .ok v w ∧ RepV w A β H (cut (mkTI P t).isAgg 0 (mkTI P t).size cs) v := by
  have hlen := hr.length
  cases hagg : (mkTI P t).isAgg with
  | true =>
    refine ⟨.agg (vs.take (mkTI P t).size).toArray, ?_, ?_⟩
    · have h1 : (vs.take (mkTI P t).size).length = (mkTI P t).size := by simp; omega
      have h2 := run_loadCells_list (P := P) w ⟨b, o, none⟩ (vs.take (mkTI P t).size) (fun j v hj => by
        rw [add_eq]
        rw [List.getElem?_take] at hj
        split at hj
        · exact hc j v hj
        · cases hj)
      rw [h1] at h2
      simp only [loadVar, Sem.run_bind, run_isAgg hk, hagg, Result.andThen_ok, if_true, run_sizeOf hs, h2, Sem.run_pure]
    · simp only [cut, cond_true, RepV, List.drop_zero]
      exact ⟨_, rfl, by simpa using hr.take _⟩
  | false =>
    have h0 : 0 < cs.length := by omega
    obtain ⟨v, h1, h2⟩ := hr.get 0 cs[0] (by simp)
    refine ⟨v, ?_, ?_⟩
    · have := hc 0 v h1
      rw [Nat.add_zero] at this
      simp only [loadVar, Sem.run_bind, run_isAgg hk, hagg, Result.andThen_ok, Bool.false_eq_true, if_false, run_load, this]
    · simp only [cut, cond_false, List.drop_zero]
      cases cs with
      | nil => simp at h0
      | cons x r => simpa using h2

theorem sem_load {P n d t x tr p e g E H} (hd : ∀ i, d = some i → i < n) (h : (aLoad P t (evalA E x) H).pre) :
    OSem P n ⟨d, .load t x, tr, p, e, g⟩ E H (aLoad P t (evalA E x) H).res [] :=
  OSem.pure hd fun A β a w hc => by
    have h2 := hc.eval x
    generalize evalA E x = X at *
    unfold aLoad at h ⊢
    have fin : ∀ b o (z : AV), a.eval x = .pointer (some ⟨b, o, none⟩) → (∃ v, (loadVar t ⟨b, o, none⟩).run P w = .ok v w ∧ RepV w A β H z v) →
        ∃ v, (execOp a.eval ⟨d, .load t x, tr, p, e, g⟩).run P w = .ok (.value v) w ∧ RepV w A β H z v := fun b o z e1 ⟨v, h1, h2⟩ =>
      ⟨v, by simp only [execOp, Instr.loadAt, e1, Instr.sureAddr, Sem.run_bind, Sem.run_pure, Result.andThen_ok, h1], h2⟩
    split at h
    · rename_i cs
      simp only [RepV] at h2
      obtain ⟨b, o, e1, hA, hr⟩ := h2
      obtain ⟨vs, h3, h4⟩ := hr.values
      exact fin b o _ e1 (run_loadVar h.1 h.2.1 (RepVs_d.2 h3) h4 (by simpa using h.2.2))
    · rename_i id o
      split at h
      · rename_i cs ho
        simp only [RepV, ho] at h2
        obtain ⟨b, hb, e1⟩ := h2
        obtain ⟨b', c, T, hb', hcell, hr⟩ := hc.heap.box id cs ho
        rw [hb] at hb'; cases hb'
        have := run_loadVar (P := P) (t := t) (b := b) (o := o) h.1 h.2.1 (hr.drop o) (fun j v hj => by
          rw [List.getElem?_drop] at hj
          simpa [World.cell?, hcell] using hj) (by simp; omega)
        refine fin b o _ e1 ?_
        simpa only [cut, List.drop_zero] using this
      · exact h.elim
    · rename_i id i o m
      split at h
      · rename_i T sz es ho
        obtain ⟨g1, g2, g3, g4, g5⟩ := h
        simp only [RepV, ho] at h2
        obtain ⟨b, hb, e1⟩ := h2.2 g3.symm
        obtain ⟨_, hr⟩ := hc.heap.arr id T sz es ho
        rcases hr with ⟨hr, _⟩ | ⟨b', c, hb', hcell, _, hr⟩
        · rw [hb] at hr; cases hr
        rw [hb] at hb'; cases hb'
        have hget : es[i]? = some (es.getD i []) := by simp [g4]
        obtain ⟨h5, h6⟩ := hr.get i _ hget
        obtain ⟨vs, h3, h4⟩ := (RepCs.drop o h6).values
        rw [Nat.zero_add] at h4
        have := run_loadVar (P := P) (t := t) (b := b) (o := i * sz + o) (β := β) (H := H) g1 g2 (RepVs_d.2 h3) h4 (by rw [List.length_map, List.length_drop, h5]; omega)
        refine fin b _ _ e1 ?_
        simpa only [cut, List.drop_zero, List.map_drop] using this
      · exact h.elim
    · exact h.elim

/-! ### making memory -/
theorem OSem.value {P n o E H r u} (hd : ∀ d, o.dst = some d → d < n)
    (h : ∀ A β a w, CfgF n A β E H a w → ∃ v w' A' β', (execOp a.eval o).run P w = .ok (.value v) w' ∧ CfgF n A' β' E (updF H u) a w' ∧ RepV w' A' β' (updF H u) r v ∧ Trans w A β H w' A' β' (updF H u)) : OSem P n o E H r u := by
  intro A β a w hc
  obtain ⟨v, w', A', β', hv, hc', hr, ht⟩ := h A β a w hc
  simp only [Oper.wp, hv, Oper.upon]
  exact ⟨A', β', hc'.put hd hr, ht⟩

def AV.cells : AV → List AV
  | .agg cs => cs
  | x => [x]

/-- It is known what cells the value has. -/
def AV.ok1 (H : HF) : AV → Prop
  | .any => False
  | .tup _ => False
  | .box id _ => liveBox (H id)
  | .elt id _ _ m => liveArr (H id) m
  | .arr id _ _ => isArr (H id)
  | _ => True

theorem updF_one (H : HF) (i : Nat) (o : Option AObj) : updF H [(i, o)] = fun j => if j = i then o else H j := by
  funext j; simp only [updF]

def zeroOk (ti : TI) : Prop := ti.zero.length = ti.size
theorem run_zeroValue {P : Program} {t : Nat} (h : (mkTI P t).size ≠ 0) (hz : (mkTI P t).zero.length = (mkTI P t).size) (w : World) :
    ∃ z, (zeroValue t).run P w = .ok z w ∧ ∀ A β H, RepVs w A β H (mkTI P t).zero z.cells.toList := by
  obtain ⟨i, hi, hs, _, h3⟩ := info_of h
  cases hzz : i.zero with
  | none => rw [hzz] at h3; rw [h3] at hz; simp at hz; omega
  | some z =>
    rw [hzz] at h3
    refine ⟨z, by simp [zeroValue, typeInfo, hi, hzz], fun A β H => ?_⟩
    have h4 : (mkTI P t).zero = z.cells.toList.map zv := h3
    rw [h4]
    generalize z.cells.toList = l
    induction l with
    | nil => simp [RepVs]
    | cons x r ih => simp only [List.map_cons, RepVs]; exact ⟨x, _, rfl, zv_rep x, ih⟩

theorem zv_ids (v : Value) : (zv v).ids = [] := by
  unfold zv
  split <;> (try split) <;> simp [AV.ids]
theorem zero_ids (P : Program) (t : Nat) : AV.idsL (mkTI P t).zero = [] := by
  unfold mkTI
  split
  · rfl
  · simp only
    split
    · rename_i z _
      generalize z.cells.toList = l
      induction l with
      | nil => rfl
      | cons x r ih => simp [AV.idsL, zv_ids, ih]
    · rfl

def aAlloc (P : Program) (nm t : Nat) : Out := ⟨(mkTI P t).size ≠ 0 ∧ (mkTI P t).zero.length = (mkTI P t).size, .box nm 0, [(nm, some (.box (mkTI P t).zero))]⟩

theorem sem_alloc {P n d nm t tr p e g E H} (hd : ∀ i, d = some i → i < n) (hf : Fresh nm E H) (h : (aAlloc P nm t).pre) :
    OSem P n ⟨d, .alloc t, tr, p, e, g⟩ E H (aAlloc P nm t).res (aAlloc P nm t).upd :=
  OSem.value hd fun A β a w hc => by
    obtain ⟨z, h1, h2⟩ := run_zeroValue h.1 h.2 w
    obtain ⟨hc', ht⟩ := hc.alloc hf z.cells t (.box (mkTI P t).zero) ⟨h2 A β H, by simp [zero_ids]⟩
    refine ⟨.pointer (some ⟨w.heap.size, 0, none⟩), _, A, _, ?_, by rw [aAlloc, updF_one]; exact hc', ?_, by rw [aAlloc, updF_one]; exact ht⟩
    · simp [execOp, Instr.alloc, h1, newVar, newRow]
    · simp [aAlloc, RepV, updF]

theorem RepV.cells {w A β H} {x : AV} {v : Value} (h : RepV w A β H x v) (h1 : x.ok1 H) : RepVs w A β H x.cells v.cells.toList := by
  cases x with
  | any => exact h1.elim
  | tup _ => exact h1.elim
  | agg cs =>
    simp only [RepV] at h
    obtain ⟨vs, rfl, h⟩ := h
    exact h
  | d x =>
    have h' := h
    simp only [RepV] at h'
    have : v.cells = #[v] := by
      cases x <;> simp only [RepD] at h'
      · rw [h'.1]; rfl
      · rw [h']; rfl
      · rw [h'.1]; rfl
      · obtain ⟨_, _, e, _⟩ := h'; rw [e]; rfl
    rw [this]; exact ⟨v, [], rfl, h, by simp [RepVs]⟩
  | nils =>
    have h' := h
    simp only [RepV] at h'
    obtain ⟨a, rfl⟩ := h'
    exact ⟨_, [], rfl, h, by simp [RepVs]⟩
  | nilp =>
    have h' := h
    simp only [RepV] at h'
    subst h'
    exact ⟨_, [], rfl, h, by simp [RepVs]⟩
  | ref cs =>
    have h' := h
    simp only [RepV] at h'
    obtain ⟨b, o, rfl, _⟩ := h'
    exact ⟨_, [], rfl, h, by simp [RepVs]⟩
  | box id o =>
    have h' := h
    obtain ⟨cs, ho⟩ := liveBox_of h1
    simp only [RepV, ho] at h'
    obtain ⟨b, _, rfl⟩ := h'
    exact ⟨_, [], rfl, h, by simp [RepVs]⟩
  | elt id i o m =>
    have h' := h
    obtain ⟨T, sz, es, ho, hm⟩ := liveArr_of h1
    simp only [RepV, ho] at h'
    obtain ⟨b, _, rfl⟩ := h'.2 hm.symm
    exact ⟨_, [], rfl, h, by simp [RepVs]⟩
  | arr id o m =>
    have h' := h
    obtain ⟨T, sz, es, ho⟩ := isArr_of h1
    simp only [RepV, ho] at h'
    obtain ⟨⟨ad, cap, rfl, _⟩, _⟩ := h'
    exact ⟨_, [], rfl, h, by simp [RepVs]⟩
  | fn f caps =>
    have h' := h
    simp only [RepV] at h'
    obtain ⟨cs, rfl, _⟩ := h'
    exact ⟨_, [], rfl, h, by simp [RepVs]⟩
end Go.AX
