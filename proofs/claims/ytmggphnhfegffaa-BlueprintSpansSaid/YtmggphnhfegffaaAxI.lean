import Derived.Test.YtmggphnhfegffaaAxH
import Derived.Great.FillDense
import Derived.Laws.MakeOwn
set_option linter.unusedVariables false
set_option linter.unusedSimpArgs false
namespace Go.AX

theorem Fresh.eval {nm E H} (h : Fresh nm E H) (x : Operand) : nm ∉ (evalA E x).ids := by
  cases x with
  | tmp t => exact h.2.1 t
  | const v => simp [evalA, zv_ids]
  | global g => simp [evalA, AV.ids]
  | func f => simp [evalA, AV.ids, AV.idsL]

theorem AV.ids_cells (x : AV) : AV.idsL x.cells = x.ids := by
  cases x <;> simp [AV.cells, AV.ids, AV.idsL]

def aBox (nm : Nat) (x : AV) (H : HF) : Out := ⟨x.ok1 H, .box nm 0, [(nm, some (.box x.cells))]⟩

theorem sem_box {P n d nm t x tr p e g E H} (hd : ∀ i, d = some i → i < n) (hf : Fresh nm E H) (h : (aBox nm (evalA E x) H).pre) :
    OSem P n ⟨d, .box t x, tr, p, e, g⟩ E H (aBox nm (evalA E x) H).res (aBox nm (evalA E x) H).upd :=
  OSem.value hd fun A β a w hc => by
    have h2 := (hc.eval x).cells h
    obtain ⟨hc', ht⟩ := hc.alloc hf (a.eval x).cells t (.box (evalA E x).cells) ⟨h2, by rw [AV.ids_cells]; exact hf.eval x⟩
    refine ⟨.pointer (some ⟨w.heap.size, 0, none⟩), _, A, _, ?_, by rw [aBox, updF_one]; exact hc', ?_, by rw [aBox, updF_one]; exact ht⟩
    · simp [execOp, Instr.box, newVar, newRow]
    · simp [aBox, RepV, updF]

/-! ### build -/
def splice {α : Type} (cs : List α) (off : Nat) (xs : List α) : List α := cs.take off ++ xs ++ cs.drop (off + xs.length)

def fillR (place : Nat → Option (Nat × Nat)) : List AV → List (Nat × AV) → List AV
  | cs, [] => cs
  | cs, (i, x) :: r => match place i with
    | some (off, _) => fillR place (splice cs off x.cells) r
    | none => []
def fillP (H : HF) (place : Nat → Option (Nat × Nat)) : List AV → List (Nat × AV) → Prop
  | _, [] => True
  | cs, (i, x) :: r => match place i with
    | some (off, sz) => x.ok1 H ∧ x.cells.length = sz ∧ off + x.cells.length ≤ cs.length ∧ fillP H place (splice cs off x.cells) r
    | none => False

theorem foldl_splice (off : Nat) (l : List Value) (cs : Array Value) (h : off + l.length ≤ cs.size) :
    (l.zipIdx.foldl (fun cs (x : Value × Nat) => cs.setIfInBounds (off + x.2) x.1) cs).toList = splice cs.toList off l := by
  obtain ⟨h1, h2⟩ := Go.Great.foldl_set off l 0 cs
  apply List.ext_getElem?
  intro k
  have h3 := h2 k
  rw [Array.getElem?_toList, h3]
  unfold splice
  by_cases hk : k < off
  · rw [if_neg (by omega), List.append_assoc, List.getElem?_append_left (by simp; omega), List.getElem?_take]
    simp [hk]
  · by_cases hk2 : k < off + l.length
    · rw [if_pos (by omega), List.append_assoc, List.getElem?_append_right (by simp; omega), List.getElem?_append_left (by simp; omega)]
      simp
      congr 1
      omega
    · rw [if_neg (by omega), List.getElem?_append_right (by simp; omega), List.getElem?_drop]
      simp
      congr 1
      omega

theorem RepVs.splice {w A β H} {cs xs : List AV} {vs us : List Value} {off : Nat} (h : RepVs w A β H cs vs) (k : RepVs w A β H xs us) : RepVs w A β H (splice cs off xs) (splice vs off us) := by
  unfold AX.splice
  rw [k.length]
  exact ((h.take off).append k).append (h.drop _)

theorem fill_rep {n E a w A β H} (hc : CfgF n A β E H a w) (place : Nat → Option (Nat × Nat)) : ∀ (parts : List (Nat × Operand)) (cs : List AV) (c : Array Value),
    RepVs w A β H cs c.toList → fillP H place cs (parts.map fun p => (p.1, evalA E p.2)) →
    ∃ c', Instr.fill place c (parts.map fun p => (p.1, a.eval p.2)) = some c' ∧ RepVs w A β H (fillR place cs (parts.map fun p => (p.1, evalA E p.2))) c'.toList
  | [], cs, c, h, _ => ⟨c, rfl, h⟩
  | (i, x) :: r, cs, c, h, hp => by
    simp only [List.map_cons, fillP, fillR, Instr.fill] at hp ⊢
    cases hpl : place i with
    | none => rw [hpl] at hp; exact hp.elim
    | some os =>
      obtain ⟨off, sz⟩ := os
      simp only [hpl] at hp ⊢
      obtain ⟨h1, h2, h3, h4⟩ := hp
      have hx := (hc.eval x).cells h1
      have hl := hx.length
      have hcl := h.length
      have e1 : ¬ ((a.eval x).cells.size ≠ sz || off + (a.eval x).cells.size > c.size) = true := by
        simp at hl hcl ⊢
        omega
      rw [if_neg e1]
      refine fill_rep hc place r _ _ ?_ h4
      have e2 : (a.eval x).cells.zipIdx.foldl (fun cs (x : Value × Nat) => cs.setIfInBounds (off + x.2) x.1) c = (a.eval x).cells.toList.zipIdx.foldl (fun cs (x : Value × Nat) => cs.setIfInBounds (off + x.2) x.1) c := by
        rw [← Array.foldl_toList, Array.toList_zipIdx]
      have e3 := foldl_splice off (a.eval x).cells.toList c (by simp at hl hcl ⊢; omega)
      have h5 := h.splice (off := off) hx
      rw [← e3, ← e2] at h5
      exact h5

def aBuild (P : Program) (t : Nat) (parts : List (Nat × AV)) (H : HF) : Out :=
  match (mkTI P t).k with
  | .struct fs => ⟨(mkTI P t).size ≠ 0 ∧ (mkTI P t).zero.length = (mkTI P t).size ∧ (∀ f ∈ fs, (mkTI P f.2).size ≠ 0) ∧ fillP H (fun i => (fs[i]?).map fun f => (f.1, (mkTI P f.2).size)) (mkTI P t).zero parts,
      .agg (fillR (fun i => (fs[i]?).map fun f => (f.1, (mkTI P f.2).size)) (mkTI P t).zero parts), []⟩
  | .array _ el => ⟨(mkTI P t).size ≠ 0 ∧ (mkTI P t).zero.length = (mkTI P t).size ∧ (mkTI P el).size ≠ 0 ∧ fillP H (fun i => some (i * (mkTI P el).size, (mkTI P el).size)) (mkTI P t).zero parts,
      .agg (fillR (fun i => some (i * (mkTI P el).size, (mkTI P el).size)) (mkTI P t).zero parts), []⟩
  | _ => fail

theorem run_places {P : Program} {w : World} : ∀ (gs : List Field), (∀ f ∈ gs, (mkTI P f.type).size ≠ 0) →
    (gs.mapM (m := Sem) fun f => do pure (f.offset, ← Go.sizeOf f.type)).run P w = .ok (gs.map fun f => (f.offset, (mkTI P f.type).size)) w
  | [], _ => by simp
  | f :: r, h => by
    have ih := run_places (w := w) r fun g hg => h g (by simp [hg])
    simp only [List.mapM_cons, Sem.run_bind, run_sizeOf (h f (by simp)), Result.andThen_ok, Sem.run_pure, ih, List.map_cons]

theorem sem_build {P n d t parts tr p e g E H} (hd : ∀ i, d = some i → i < n) (h : (aBuild P t (parts.toList.map fun p => (p.1, evalA E p.2)) H).pre) :
    OSem P n ⟨d, .build t parts, tr, p, e, g⟩ E H (aBuild P t (parts.toList.map fun p => (p.1, evalA E p.2)) H).res [] :=
  OSem.pure hd fun A β a w hc => by
    unfold aBuild at h ⊢
    split at h
    · rename_i fs hk
      obtain ⟨h1, h2, h3, h4⟩ := h
      obtain ⟨z, hz, hzr⟩ := run_zeroValue h1 h2 w
      obtain ⟨gs, hu, rfl⟩ := und_struct hk
      obtain ⟨c', hc1, hc2⟩ := fill_rep hc _ parts.toList _ z.cells (hzr A β H) h4
      refine ⟨.agg c', ?_, by simp only [RepV]; exact ⟨c', rfl, hc2⟩⟩
      have e1 : (parts.map fun (x : Nat × Operand) => (x.1, a.eval x.2)).toList = parts.toList.map fun p => (p.1, a.eval p.2) := by simp
      have e2 : (gs.mapM (m := Sem) fun f => do pure (f.offset, ← Go.sizeOf f.type)).run P w = .ok (gs.map fun f => (f.offset, (mkTI P f.type).size)) w := by
        have := run_places (P := P) (w := w) gs.toList fun f hf => h3 (f.offset, f.type) (by simp; exact ⟨f, by simpa using hf, rfl, rfl⟩)
        rw [← Array.toArray_toList (xs := gs), List.mapM_toArray]
        simp only [Sem.run_map, this, Result.andThen_ok]
        congr 1
        apply Array.ext'
        simp
      have e3 : (fun (i : Nat) => (gs.map fun (f : Field) => (f.offset, (mkTI P f.type).size))[i]?) = fun (i : Nat) => ((gs.toList.map fun (f : Field) => (f.offset, f.type))[i]?).map fun (f : Nat × Nat) => (f.1, (mkTI P f.2).size) := by
        funext i; simp [Function.comp_def]
      simp only [execOp, Instr.build, hz, run_underlying hu, Sem.run_bind, Sem.run_pure, Result.andThen_ok, e2, e1, e3, hc1]
    · rename_i el hk
      obtain ⟨h1, h2, h3, h4⟩ := h
      obtain ⟨z, hz, hzr⟩ := run_zeroValue h1 h2 w
      obtain ⟨c', hc1, hc2⟩ := fill_rep hc _ parts.toList _ z.cells (hzr A β H) h4
      refine ⟨.agg c', ?_, by simp only [RepV]; exact ⟨c', rfl, hc2⟩⟩
      have e1 : (parts.map fun (x : Nat × Operand) => (x.1, a.eval x.2)).toList = parts.toList.map fun p => (p.1, a.eval p.2) := by simp
      simp only [execOp, Instr.build, hz, run_underlying (und_array hk), Sem.run_bind, Sem.run_pure, Result.andThen_ok, run_sizeOf h3, e1, hc1]
    · exact h.elim
end Go.AX
