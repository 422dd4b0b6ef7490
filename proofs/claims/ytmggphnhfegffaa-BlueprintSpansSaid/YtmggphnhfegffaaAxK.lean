import Derived.Test.YtmggphnhfegffaaAxJ
set_option linter.unusedVariables false
set_option linter.unusedSimpArgs false
namespace Go.AX

/-! ### buildSlice -/
def dense : Nat → List (Nat × AV) → Prop
  | _, [] => True
  | k, (i, _) :: r => i = k ∧ dense (k + 1) r
def elP (H : HF) (sz : Nat) : List (Nat × AV) → Prop
  | [] => True
  | (_, x) :: r => x.ok1 H ∧ x.cells.length = sz ∧ avDps H x.cells ∧ elP H sz r

def aBuildSlice (P : Program) (nm t len : Nat) (parts : List (Nat × AV)) (H : HF) : Out :=
  ⟨(mkTI P t).k.isSl = true ∧ (mkTI P (mkTI P t).k.el).size ≠ 0 ∧ (mkTI P (mkTI P t).k.el).zero.length = (mkTI P (mkTI P t).k.el).size ∧ len * (mkTI P (mkTI P t).k.el).size ≤ 16777216 ∧ parts.length = len ∧ dense 0 parts ∧ elP H (mkTI P (mkTI P t).k.el).size parts,
    .arr nm 0 len, (nm, some (.arr (mkTI P t).k.el (mkTI P (mkTI P t).k.el).size (parts.map fun p => p.2.cells.map (avD H)))) :: (AV.idsL (parts.map (·.2))).map fun i => (i, none)⟩

theorem dense_zip (a : Act) (E : EF) : ∀ (parts : List (Nat × Operand)) (k : Nat), dense k (parts.map fun p => (p.1, evalA E p.2)) →
    parts.map (fun p => (p.1, a.eval p.2)) = ((parts.map fun p => a.eval p.2).zipIdx k).map fun x => (x.2, x.1)
  | [], _, _ => rfl
  | (i, x) :: r, k, h => by
    simp only [List.map_cons, dense] at h
    obtain ⟨rfl, h⟩ := h
    simp only [List.map_cons, List.zipIdx_cons, dense_zip a E r (i + 1) h]

theorem build_rep {n A β E H a w} (hc : CfgF n A β E H a w) (ids : List Nat) (sz : Nat) : ∀ (parts : List (Nat × Operand)), elP H sz (parts.map fun p => (p.1, evalA E p.2)) →
    (∀ i ∈ AV.idsL ((parts.map fun p => (p.1, evalA E p.2)).map (·.2)), i ∈ ids) →
    (∀ v ∈ parts.map fun p => a.eval p.2, v.cells.size = sz) ∧
    (∀ e ∈ (parts.map fun p => (p.1, evalA E p.2)).map fun p => p.2.cells.map (avD H), e.length = sz) ∧
    RepDs w (fun b => A b ∨ ∃ i ∈ ids, H i ≠ none ∧ β i = some b) ((parts.map fun p => (p.1, evalA E p.2)).map fun p => p.2.cells.map (avD H)).flatten ((parts.map fun p => a.eval p.2).flatMap fun v => v.cells.toList)
  | [], _, _ => by simp [RepDs]
  | (i, x) :: r, h, hi => by
    simp only [List.map_cons, elP] at h
    obtain ⟨h1, h2, h3, h4⟩ := h
    simp only [List.map_cons, AV.idsL] at hi
    obtain ⟨g1, g2, g3⟩ := build_rep hc ids sz r h4 fun i hm => hi i (List.mem_append.2 (.inr hm))
    have hx := (hc.eval x).cells h1
    have hl := hx.length
    refine ⟨?_, ?_, ?_⟩
    · intro v hv
      simp only [List.map_cons, List.mem_cons] at hv
      rcases hv with rfl | hv
      · simp at hl; omega
      · exact g1 v hv
    · intro e he
      simp only [List.map_cons, List.mem_cons] at he
      rcases he with rfl | he
      · simp [h2]
      · exact g2 e he
    · simp only [List.map_cons, List.flatten_cons, List.flatMap_cons]
      exact (hc.avDs_rep ids hx h3 fun i hm => hi i (List.mem_append.2 (.inl (by rwa [AV.ids_cells] at hm)))).append g3

theorem updF_cons_dead (H : HF) (nm : Nat) (o : Option AObj) (ids : List Nat) : updF H ((nm, o) :: ids.map fun i => (i, none)) = fun i => if i = nm then o else dead H ids i := by
  funext i; simp only [updF, updF_dead]

theorem sem_buildSlice {P n d nm t len parts tr p e g E H} (hd : ∀ i, d = some i → i < n) (hf : Fresh nm E H) (h : (aBuildSlice P nm t len (parts.toList.map fun p => (p.1, evalA E p.2)) H).pre) :
    OSem P n ⟨d, .buildSlice t len parts, tr, p, e, g⟩ E H (aBuildSlice P nm t len (parts.toList.map fun p => (p.1, evalA E p.2)) H).res (aBuildSlice P nm t len (parts.toList.map fun p => (p.1, evalA E p.2)) H).upd :=
  OSem.value hd fun A β a w hc => by
    obtain ⟨g1, g2, g3, g4, g5, g6, g7⟩ := h
    obtain ⟨el, hel⟩ := TK.sl_of g1
    have hu := und_slice hel
    have hel' : (mkTI P t).k.el = el := by rw [hel]; rfl
    unfold aBuildSlice
    simp only [hel'] at g2 g3 g4 g7 ⊢
    obtain ⟨z, hz, hzr⟩ := run_zeroValue g2 g3 w
    generalize hids : AV.idsL ((parts.toList.map fun p => (p.1, evalA E p.2)).map (·.2)) = ids
    obtain ⟨h1, h2, h3⟩ := build_rep hc ids (mkTI P el).size parts.toList g7 (by rw [hids]; exact fun i h => h)
    obtain ⟨hc1, ht1⟩ := hc.freezes ids
    have hlen : parts.toList.length = len := by simpa using g5
    have hfl : ((parts.toList.map fun p => a.eval p.2).flatMap fun v => v.cells.toList).length = len * (mkTI P el).size := by
      have := h3.length
      rw [this, List.length_flatten]
      have e : ((parts.toList.map fun p => (p.1, evalA E p.2)).map fun p => p.2.cells.map (avD H)).map List.length = List.replicate len (mkTI P el).size := by
        rw [List.eq_replicate_iff]
        refine ⟨by rw [List.length_map, List.length_map, List.length_map]; exact hlen, fun b hb => ?_⟩
        rw [List.mem_map] at hb
        obtain ⟨e, he, rfl⟩ := hb
        exact h2 e he
      rw [e]; simp
    obtain ⟨hc2, ht2⟩ := hc1.alloc (hf.dead ids) ((parts.toList.map fun p => a.eval p.2).flatMap fun v => v.cells.toList).toArray el
      (.arr el (mkTI P el).size ((parts.toList.map fun p => (p.1, evalA E p.2)).map fun p => p.2.cells.map (avD H)))
      ⟨rfl, by simp only [List.length_map, hlen, LB]; have := Nat.le_mul_of_pos_right len (Nat.pos_of_ne_zero g2); omega,
        by simp only [List.length_map, hlen, List.size_toArray, hfl]; exact Nat.le_refl _, h2, _, [], by simp, h3⟩
    refine ⟨.slice (some ⟨w.heap.size, 0, none⟩) len len, _, _, _, ?_, by rw [updF_cons_dead]; exact hc2, ?_, ?_⟩
    · have e1 : (parts.map fun (x : Nat × Operand) => (x.1, a.eval x.2)).toList = parts.toList.map fun p => (p.1, a.eval p.2) := by simp
      have e2 := dense_zip a E parts.toList 0 g6
      have hns : ¬ len * (mkTI P el).size > 2 ^ 24 := by omega
      by_cases h0 : len * (mkTI P el).size = 0
      · have hfw := Go.Great.fill_whole (s := (mkTI P el).size) (Nat.pos_of_ne_zero g2) (parts.toList.map fun p => a.eval p.2) ((Array.range (len * (mkTI P el).size)).map ((#[] : Array Value)[· % (#[] : Array Value).size]!)) h1 (by simp [hlen])
        rw [h0] at hfw hns
        simp only [execOp, Instr.buildSlice, run_underlying hu, Sem.run_bind, Sem.run_pure, Result.andThen_ok, run_sizeOf g2, h0, hns, if_false, if_true, e1, e2, hfw, newRow, run_newObj]
        rfl
      · have hfw := Go.Great.fill_whole (s := (mkTI P el).size) (Nat.pos_of_ne_zero g2) (parts.toList.map fun p => a.eval p.2) ((Array.range (len * (mkTI P el).size)).map (z.cells[· % z.cells.size]!)) h1 (by simp [hlen])
        simp only [execOp, Instr.buildSlice, run_underlying hu, Sem.run_bind, Sem.run_pure, Result.andThen_ok, run_sizeOf g2, hns, if_false, h0, e1, e2, hz, hfw, newRow, run_newObj]
        rfl
    · simp only [updF_cons_dead, RepV, if_true, RepArr, List.length_map, hlen, g5]
      refine ⟨⟨_, _, rfl, Nat.le_refl _⟩, by omega, fun _ => .inr ⟨w.heap.size, ⟨w.heap.size, 0, none⟩, len, rfl, rfl, .inr (by simp), ?_, ?_⟩⟩
      · simp only [blkSize, heap_alloc_new w _, List.size_toArray, hfl, Nat.zero_add]
      · have := Nat.le_mul_of_pos_right len (Nat.pos_of_ne_zero g2); omega
    · rw [updF_cons_dead]
      refine ht1.comp ht2 fun i h4 h5 => ?_
      by_cases e : i = nm
      · subst e; exact absurd hf.1 h4
      · simp only [e, if_false]; exact h5
end Go.AX
