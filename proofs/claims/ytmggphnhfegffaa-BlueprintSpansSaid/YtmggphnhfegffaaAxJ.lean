import Derived.Test.YtmggphnhfegffaaAxI
set_option linter.unusedVariables false
set_option linter.unusedSimpArgs false
namespace Go.AX

theorem RepDs.of_get {w A} : ∀ {ds : List D} {vs : List Value}, vs.length = ds.length → (∀ (j : Nat) (d : D) (v : Value), ds[j]? = some d → vs[j]? = some v → RepD w A d v) → RepDs w A ds vs
  | [], vs, h, _ => by simp only [RepDs]; exact List.eq_nil_of_length_eq_zero (by simpa using h)
  | d :: r, [], h, _ => by simp at h
  | d :: r, v :: vs, h, k => by
    simp only [RepDs]
    exact ⟨v, vs, rfl, k 0 d v rfl rfl, RepDs.of_get (by simpa using h) fun j d' v' h1 h2 => k (j + 1) d' v' (by simpa using h1) (by simpa using h2)⟩

theorem RepDs.get {w A} : ∀ {ds : List D} {vs : List Value}, RepDs w A ds vs → ∀ (j : Nat) (d : D) (v : Value), ds[j]? = some d → vs[j]? = some v → RepD w A d v
  | [], vs, h, j, d, v, h1, _ => by simp at h1
  | x :: r, vs, h, j, d, v, h1, h2 => by
    simp only [RepDs] at h
    obtain ⟨u, t, rfl, hd, h⟩ := h
    cases j with
    | zero => simp at h1 h2; subst h1; subst h2; exact hd
    | succ j => exact RepDs.get h j d v (by simpa using h1) (by simpa using h2)

/-! ### the zero value as data -/
def zD : List AV → List D
  | [] => []
  | .d x :: r => x :: zD r
  | _ :: r => .sl [] :: zD r
def zDp : List AV → Prop
  | [] => True
  | .d _ :: r => zDp r
  | .nils :: r => zDp r
  | _ => False

theorem zD_rep {w A β H} : ∀ {xs : List AV} {vs : List Value}, zDp xs → RepVs w A β H xs vs → RepDs w A (zD xs) vs
  | [], vs, _, h => by simpa only [RepVs, zD, RepDs] using h
  | x :: r, vs, hp, h => by
    simp only [RepVs] at h
    obtain ⟨v, t, rfl, hx, h⟩ := h
    cases x with
    | d y => simp only [zD, RepDs]; exact ⟨v, t, rfl, by simpa only [RepV] using hx, zD_rep (by simpa only [zDp] using hp) h⟩
    | nils =>
      simp only [zD, RepDs]
      simp only [RepV] at hx
      obtain ⟨a, rfl⟩ := hx
      refine ⟨_, t, rfl, ?_, zD_rep (by simpa only [zDp] using hp) h⟩
      simp only [RepD]
      exact ⟨a, 0, by simp, by simp, trivial, by simp⟩
    | _ => simp only [zDp] at hp

theorem zD_length : ∀ (xs : List AV), (zD xs).length = xs.length
  | [] => rfl
  | x :: r => by cases x <;> simp [zD, zD_length r]

theorem replicate_flatten_get (z : List D) : ∀ (k j : Nat), j < k * z.length → (List.replicate k z).flatten[j]? = z[j % z.length]?
  | 0, j, h => by simp at h
  | k + 1, j, h => by
    simp only [List.replicate_succ, List.flatten_cons]
    by_cases hj : j < z.length
    · rw [List.getElem?_append_left hj, Nat.mod_eq_of_lt hj]
    · rw [List.getElem?_append_right (by omega), replicate_flatten_get z k (j - z.length) (by rw [Nat.add_mul] at h; omega)]
      congr 1
      conv => rhs; rw [show j = (j - z.length) + z.length by omega, Nat.add_mod_right]

theorem made_rep {w A} {z : List D} {c : Array Value} (h : RepDs w A z c.toList) (k : Nat) : RepDs w A (List.replicate k z).flatten (madeCells c (k * c.size)).toList := by
  have hl := h.length
  simp at hl
  refine RepDs.of_get (by simp [size_madeCells, hl]) fun j d v h1 h2 => ?_
  have hj : j < k * c.size := by
    have := (List.getElem?_eq_some_iff.1 h2).1
    simpa [size_madeCells] using this
  rw [replicate_flatten_get z k j (by rw [← hl]; exact hj)] at h1
  have hz : 0 < c.size := by
    rcases Nat.eq_zero_or_pos c.size with h0 | h0
    · rw [h0] at hj; simp at hj
    · exact h0
  have hm : j % c.size < c.size := Nat.mod_lt _ hz
  have e : v = c[j % c.size] := by
    simp only [madeCells, Array.toList_map, Array.toList_range, List.getElem?_map, Option.map_eq_some_iff] at h2
    obtain ⟨j', h3, h4⟩ := h2
    rw [List.getElem?_range (by simpa using hj)] at h3
    cases h3
    rw [← h4]
    simp [hm]
  rw [e]
  refine h.get (j % c.size) d _ (by rw [hl]; exact h1) ?_
  simp [hm]

def aMake (P : Program) (nm t : Nat) (l c : AV) : Out :=
  match l, c with
  | .d (.int _ m), .d (.int _ m') => ⟨(mkTI P t).k.isSl = true ∧ (mkTI P (mkTI P t).k.el).size ≠ 0 ∧ (mkTI P (mkTI P t).k.el).zero.length = (mkTI P (mkTI P t).k.el).size ∧ zDp (mkTI P (mkTI P t).k.el).zero ∧ 0 ≤ m ∧ m = m' ∧ (mkTI P (mkTI P t).k.el).bytes * m ≤ 281474976710656 ∧ m ≤ 281474976710656,
      .arr nm 0 m.toNat, [(nm, some (.arr (mkTI P t).k.el (mkTI P (mkTI P t).k.el).size (List.replicate m.toNat (zD (mkTI P (mkTI P t).k.el).zero))))]⟩
  | _, _ => fail

theorem sem_make {P n d nm t l c tr p e g E H} (hd : ∀ i, d = some i → i < n) (hf : Fresh nm E H) (h : (aMake P nm t (evalA E l) (evalA E c)).pre) :
    OSem P n ⟨d, .makeSlice t l c, tr, p, e, g⟩ E H (aMake P nm t (evalA E l) (evalA E c)).res (aMake P nm t (evalA E l) (evalA E c)).upd :=
  OSem.value hd fun A β a w hc => by
    have h2 := hc.eval l
    have h3 := hc.eval c
    generalize evalA E l = L at *
    generalize evalA E c = C at *
    unfold aMake at h ⊢
    split at h
    · rename_i k m k' m'
      obtain ⟨g1, g2, g3, g4, g5, rfl, g7, g8⟩ := h
      simp only [RepV, RepD] at h2 h3
      obtain ⟨el, hel⟩ := TK.sl_of g1
      have hu := und_slice hel
      have hel' : (mkTI P t).k.el = el := by rw [hel]; rfl
      simp only [hel'] at g2 g3 g4 g7 ⊢
      obtain ⟨i, hi, hs, hby, hz⟩ := info_of g2
      cases hzz : i.zero with
      | none => rw [hzz] at hz; rw [hz] at g3; simp at g3; omega
      | some z =>
        rw [hzz] at hz
        have hz' : (mkTI P el).zero = z.cells.toList.map zv := hz
        have hzr : RepVs w A β H (mkTI P el).zero z.cells.toList := by
          rw [hz']
          generalize z.cells.toList = l
          induction l with
          | nil => simp [RepVs]
          | cons x r ih => simp only [List.map_cons, RepVs]; exact ⟨x, _, rfl, zv_rep x, ih⟩
        have hzd := zD_rep g4 hzr
        have hcs : z.cells.size = (mkTI P el).size := by rw [← g3, hz']; simp
        have hrun := run_make (P := P) w t el i z hu hi hzz k k' m m g5 (Int.le_refl _) (by rw [hby]; exact g7) (by omega)
        rw [hs, ← hcs] at hrun
        have hlen : (List.replicate m.toNat (zD (mkTI P el).zero)).length = m.toNat := by simp
        obtain ⟨hc', ht⟩ := hc.alloc hf (madeCells z.cells (m.toNat * z.cells.size)) el (.arr el (mkTI P el).size (List.replicate m.toNat (zD (mkTI P el).zero)))
          ⟨rfl, by rw [hlen]; simp only [LB]; omega, by rw [hlen, size_madeCells, hcs]; exact Nat.le_refl _, fun e he => by
            rw [List.mem_replicate] at he; rw [he.2, zD_length, g3], _, [], by simp, made_rep hzd m.toNat⟩
        refine ⟨_, _, A, _, by simp only [execOp, h2.1, h3.1, hrun, Sem.run_bind, Sem.run_pure, Result.andThen_ok]; try rfl, by rw [updF_one]; exact hc', ?_, by rw [updF_one]; exact ht⟩
        simp only [RepV, updF, if_true, RepArr, hlen]
        refine ⟨⟨_, _, rfl, Nat.le_refl _⟩, by omega, fun _ => .inr ⟨w.heap.size, ⟨w.heap.size, 0, none⟩, m.toNat, rfl, rfl, .inr (by simp), ?_, by omega⟩⟩
        simp only [blkSize, heap_alloc_new w _, size_madeCells, hcs, Nat.zero_add]
    · exact h.elim

/-! ### values as data -/
def avD (H : HF) : AV → D
  | .d x => x
  | .nils => .sl []
  | .arr id off len => match H id with
    | some (.arr _ _ es) => .sl ((es.drop off).take len)
    | _ => .sl []
  | _ => .sl []
def avDp (H : HF) : AV → Prop
  | .d _ => True
  | .nils => True
  | .arr id off len => match H id with
    | some (.arr _ _ es) => off + len = es.length
    | _ => False
  | _ => False
def avDps (H : HF) : List AV → Prop
  | [] => True
  | x :: r => avDp H x ∧ avDps H r

def dead (H : HF) (ids : List Nat) : HF := fun i => if i ∈ ids then none else H i

theorem updF_dead (H : HF) (ids : List Nat) : updF H (ids.map fun i => (i, none)) = dead H ids := by
  funext i
  induction ids with
  | nil => simp [updF, dead]
  | cons x r ih =>
    simp only [List.map_cons, updF, ih, dead]
    by_cases h : i = x <;> simp [h]

/-- Freeze several objects. -/
theorem CfgF.freezes {n A β E H a w} (h : CfgF n A β E H a w) (ids : List Nat) :
    CfgF n (fun b => A b ∨ ∃ i ∈ ids, H i ≠ none ∧ β i = some b) β E (dead H ids) a w ∧
    Trans w A β H w (fun b => A b ∨ ∃ i ∈ ids, H i ≠ none ∧ β i = some b) β (dead H ids) := by
  induction ids generalizing A H with
  | nil =>
    have e1 : dead H [] = H := by funext i; simp [dead]
    have e2 : (fun b => A b ∨ ∃ i ∈ ([] : List Nat), H i ≠ none ∧ β i = some b) = A := by funext b; simp
    rw [e1, e2]
    exact ⟨h, Trans.refl _ _ _ _⟩
  | cons x r ih =>
    obtain ⟨h1, t1⟩ := h.freeze x
    obtain ⟨h2, t2⟩ := ih h1
    have e1 : dead (fun i => if i = x then none else H i) r = dead H (x :: r) := by
      funext i
      simp only [dead, List.mem_cons]
      by_cases hx : i = x <;> by_cases hr : i ∈ r <;> simp [hx, hr]
    have e2 : (fun b => (A b ∨ (H x ≠ none ∧ β x = some b)) ∨ ∃ i ∈ r, (if i = x then none else H i) ≠ none ∧ β i = some b) = (fun b => A b ∨ ∃ i ∈ x :: r, H i ≠ none ∧ β i = some b) := by
      funext b
      apply propext
      constructor
      · rintro ((h | ⟨h, k⟩) | ⟨i, hi, h, k⟩)
        · exact .inl h
        · exact .inr ⟨x, by simp, h, k⟩
        · by_cases e : i = x
          · simp [e] at h
          · exact .inr ⟨i, by simp [hi], by simpa [e] using h, k⟩
      · rintro (h | ⟨i, hi, h, k⟩)
        · exact .inl (.inl h)
        · by_cases e : i = x
          · subst e; exact .inl (.inr ⟨h, k⟩)
          · exact .inr ⟨i, by simpa [e] using hi, by simpa [e] using h, k⟩
    rw [e1, e2] at h2
    rw [e1, e2] at t2
    exact ⟨h2, t1.comp t2 fun i h3 h4 => by
      simp only [dead]
      by_cases e : i = x
      · simp [e]
      · simp only [e, if_false] at h4; exact absurd h4 h3⟩

theorem CfgF.avD_rep {n A β E H a w} (h : CfgF n A β E H a w) (ids : List Nat) {x : AV} {v : Value} (hx : RepV w A β H x v) (hp : avDp H x) (hi : ∀ i ∈ x.ids, i ∈ ids) :
    RepD w (fun b => A b ∨ ∃ i ∈ ids, H i ≠ none ∧ β i = some b) (avD H x) v := by
  cases x with
  | d y =>
    simp only [RepV] at hx
    exact RepD.stable (fun _ h => .inl h) (fun _ _ => rfl) _ _ hx
  | nils =>
    simp only [RepV] at hx
    obtain ⟨a, rfl⟩ := hx
    simp only [avD, RepD]
    exact ⟨a, 0, by simp, by simp, trivial, by simp⟩
  | arr id off len =>
    simp only [avDp] at hp
    split at hp
    · rename_i T sz es ho
      have h1 := h.frozen_rep ho hx hp
      simp only [avD, ho]
      refine RepD.stable (fun b hb => ?_) (fun _ _ => rfl) _ _ h1
      rcases hb with hb | ⟨h2, h3⟩
      · exact .inl hb
      · exact .inr ⟨id, hi id (by simp [AV.ids]), h2, h3⟩
    · exact hp.elim
  | _ => exact hp.elim

theorem CfgF.avDs_rep {n A β E H a w} (h : CfgF n A β E H a w) (ids : List Nat) : ∀ {xs : List AV} {vs : List Value}, RepVs w A β H xs vs → avDps H xs → (∀ i ∈ AV.idsL xs, i ∈ ids) →
    RepDs w (fun b => A b ∨ ∃ i ∈ ids, H i ≠ none ∧ β i = some b) (xs.map (avD H)) vs
  | [], vs, hx, _, _ => by simpa only [RepVs, List.map_nil, RepDs] using hx
  | x :: r, vs, hx, hp, hi => by
    simp only [RepVs] at hx
    obtain ⟨v, t, rfl, h1, h2⟩ := hx
    simp only [List.map_cons, RepDs]
    exact ⟨v, t, rfl, h.avD_rep ids h1 hp.1 (fun i hm => hi i (by simp [AV.idsL, hm])), h.avDs_rep ids h2 hp.2 (fun i hm => hi i (by simp [AV.idsL, hm]))⟩

theorem Fresh.dead {nm E H} (h : Fresh nm E H) (ids : List Nat) : Fresh nm E (dead H ids) := by
  refine ⟨?_, h.2.1, fun j o ho => ?_⟩
  · simp only [AX.dead]; split
    · rfl
    · exact h.1
  · simp only [AX.dead] at ho
    split at ho
    · cases ho
    · exact h.2.2 j o ho
end Go.AX
