import Derived.Test.YtmggphnhfegffaaAxK
set_option linter.unusedVariables false
set_option linter.unusedSimpArgs false
namespace Go.AX

/-! ### append -/
/-- The elements of a slice that is read. -/
def esOf (H : HF) : AV → List (List D)
  | .d (.sl es) => es
  | .arr id off len => match H id with
    | some (.arr _ _ es) => (es.drop off).take len
    | _ => []
  | _ => []
def esOfP (H : HF) : AV → Prop
  | .d (.sl _) => True
  | .nils => True
  | .arr id off len => match H id with
    | some (.arr _ _ es) => off + len = es.length
    | _ => False
  | _ => False

theorem esOf_rep {n A β E H a w} (hc : CfgF n A β E H a w) {x : AV} {v : Value} (hx : RepV w A β H x v) (hp : esOfP H x) (sz : Nat) (hs : ∀ e ∈ esOf H x, e.length = sz) :
    ∃ ad c news, v = .slice ad (esOf H x).length c ∧ news.length = (esOf H x).length * sz ∧ RepDs w A (esOf H x).flatten news ∧ sized (esOf H x).length ∧
      ((esOf H x).length = 0 ∨ ∃ b o, ad = some ⟨b, o, none⟩ ∧ ∀ (j : Nat) (u : Value), news[j]? = some u → w.cell? ⟨b, o + j, none⟩ = some u) := by
  cases x with
  | d y =>
    cases y with
    | sl es =>
      simp only [RepV, RepD] at hx
      obtain ⟨ad, cap, rfl, h1, h2, h3⟩ := hx
      simp only [esOf] at hs ⊢
      rcases h3 with h3 | ⟨b, o, s, rfl, hA, hr⟩
      · subst h3; exact ⟨ad, cap, [], rfl, by simp, by simp [RepDs], h2, .inl rfl⟩
      · cases es with
        | nil => exact ⟨_, cap, [], rfl, by simp, by simp [RepDs], h2, .inl rfl⟩
        | cons e0 r =>
          have hse : s = sz := by
            rw [← hs e0 (by simp)]
            exact ((hr.get 0 e0 (by simp)).1).symm
          subst hse
          obtain ⟨_, vs, h4, h5, h6⟩ := hr.values
          exact ⟨_, cap, vs, rfl, h4, h5, h2, .inr ⟨b, o, rfl, h6⟩⟩
    | _ => exact hp.elim
  | nils =>
    simp only [RepV] at hx
    obtain ⟨ad, rfl⟩ := hx
    exact ⟨ad, 0, [], rfl, by simp [esOf], by simp [esOf, RepDs], trivial, .inl rfl⟩
  | arr id off len =>
    simp only [esOfP] at hp
    split at hp
    · rename_i T s es ho
      have hol : off ≤ es.length := by omega
      simp only [RepV, ho] at hx
      obtain ⟨⟨a0, c0, rfl, hc0⟩, _, h3⟩ := hx
      obtain ⟨hLB, h2⟩ := hc.heap.arr id T s es ho
      have hl : ((es.drop off).take len).length = len := by simp; omega
      simp only [esOf, ho] at hs ⊢
      rw [hl]
      by_cases h0 : len = 0
      · subst h0; exact ⟨a0, c0, [], rfl, by simp, by simp [RepDs], trivial, .inl rfl⟩
      rcases h3 hp with ⟨_, _, a1, hv⟩ | ⟨b, a1, cap, hb, hv, ha, _⟩
      · cases hv; clear h3; omega
      · cases hv
        clear h3
        rcases ha with ha | ha
        · omega
        · subst ha
          rcases h2 with ⟨h2, _⟩ | ⟨b', c, hb', hcc, hle, hr⟩
          · rw [hb] at h2; cases h2
          rw [hb] at hb'; cases hb'
          have h5 := RepEs.take len (RepEs.drop off hr hol)
          rw [Nat.zero_add] at h5
          have hse : s = sz := by
            cases hd : (es.drop off).take len with
            | nil => rw [hd] at hl; simp at hl; omega
            | cons e0 r =>
              rw [hd] at h5 hs
              rw [← hs e0 (by simp)]
              exact ((h5.get 0 e0 (by simp)).1).symm
          subst hse
          obtain ⟨_, vs, h6, h7, h8⟩ := h5.values
          exact ⟨_, _, vs, rfl, by rw [h6, hl], h7, trivial, .inr ⟨b, _, rfl, h8⟩⟩
    · exact hp.elim
  | _ => exact hp.elim

theorem RepDs.oneCell {w A} : ∀ {ds : List D} {vs : List Value}, RepDs w A ds vs → ∀ u ∈ vs, u.oneCell' = true
  | [], vs, h, u, hu => by simp only [RepDs] at h; rw [h] at hu; simp at hu
  | d :: r, vs, h, u, hu => by
    simp only [RepDs] at h
    obtain ⟨v, t, rfl, hd, h⟩ := h
    rcases List.mem_cons.1 hu with rfl | hu
    · exact RepD.oneCell hd
    · exact RepDs.oneCell h u hu

def aAppend (P : Program) (nm t : Nat) (x y : AV) (H : HF) : Out :=
  match x with
  | .nils => ⟨H nm = none ∧ (mkTI P t).k.isSl = true ∧ (mkTI P (mkTI P t).k.el).size ≠ 0 ∧ (mkTI P (mkTI P t).k.el).zero.length = (mkTI P (mkTI P t).k.el).size ∧ esOfP H y ∧ (∀ e ∈ esOf H y, e.length = (mkTI P (mkTI P t).k.el).size) ∧ (esOf H y).length * (mkTI P (mkTI P t).k.el).bytes ≤ 140737488355328 ∧ (esOf H y).length ≤ LB,
      .arr nm 0 (esOf H y).length, [(nm, some (.arr (mkTI P t).k.el (mkTI P (mkTI P t).k.el).size (esOf H y)))]⟩
  | .arr id 0 len => match H id with
    | some (.arr T sz es) => ⟨(mkTI P t).k.isSl = true ∧ T = (mkTI P t).k.el ∧ sz = (mkTI P (mkTI P t).k.el).size ∧ sz ≠ 0 ∧ (mkTI P (mkTI P t).k.el).zero.length = (mkTI P (mkTI P t).k.el).size ∧ len = es.length ∧ esOfP H y ∧ (∀ e ∈ esOf H y, e.length = (mkTI P (mkTI P t).k.el).size) ∧ (es.length + (esOf H y).length) * (mkTI P (mkTI P t).k.el).bytes ≤ 140737488355328 ∧ es.length + (esOf H y).length ≤ LB,
        .arr id 0 (len + (esOf H y).length), [(id, some (.arr T sz (es ++ esOf H y)))]⟩
    | _ => fail
  | _ => fail

theorem CfgF.drew {n A β E H a w} (h : CfgF n A β E H a w) : CfgF n A β E H a w.drew ∧ Trans w A β H w.drew A β H := by
  have hs : ∀ b : Nat, w.drew.heap[b]? = w.heap[b]? := fun _ => rfl
  have hk : ∀ i o, H i = some o → ∃ o2, H i = some o2 ∧ Keep w w.drew β β i o2 o := fun i o ho => ⟨o, ho, by
    cases o with
    | box _ => rfl
    | arr _ _ _ => exact ⟨rfl, rfl, Nat.le_refl _, fun _ => ⟨rfl, fun _ _ => rfl⟩⟩⟩
  refine ⟨h.update (fun _ h => h) (fun b _ => hs b) (fun i o ho => .inl (hk i o ho)) ⟨fun id cs hi => ?_, fun id T sz es hi => ?_, h.heap.inj, h.heap.sepA, h.heap.bound⟩,
    ⟨Nat.le_refl _, rfl, rfl, rfl, fun _ _ _ => rfl, fun _ h => h, fun _ h => .inl h, fun i b hi hb => .inr ⟨i, hi, hb⟩, fun i o o' ho ho' => by
      obtain ⟨o2, h2, h3⟩ := hk i o' ho'
      rw [ho] at h2; cases h2; exact h3⟩⟩
  · obtain ⟨b, c, T, hb, hc, hr⟩ := h.heap.box id cs hi
    exact ⟨b, c, T, hb, hc, RepVs.stable (fun _ h => h) (fun b _ => hs b) _ _ (fun i _ o ho => hk i o ho) hr⟩
  · obtain ⟨h1, h2⟩ := h.heap.arr id T sz es hi
    exact ⟨h1, h2.imp (fun h => h) fun ⟨b, c, hb, hc, h3, h4⟩ => ⟨b, c, hb, hc, h3, RepEs.stable (fun _ h => h) (fun b _ => hs b) b sz (hs b) 0 es h4⟩⟩

theorem info_zero {P : Program} {t : Nat} (h : (mkTI P t).size ≠ 0) (hz : (mkTI P t).zero.length = (mkTI P t).size) :
    ∃ i z, P.info? t = some i ∧ i.size = (mkTI P t).size ∧ i.bytes = (mkTI P t).bytes ∧ i.zero = some z ∧ z.cells.size = (mkTI P t).size := by
  obtain ⟨i, hi, hs, hb, h3⟩ := info_of h
  cases hzz : i.zero with
  | none => rw [hzz] at h3; rw [h3] at hz; simp at hz; omega
  | some z =>
    rw [hzz] at h3
    exact ⟨i, z, hi, hs, hb, hzz, by rw [← hz, h3]; simp⟩

theorem blk_new (w : World) (c : Array Value) (T : TypeId) : blkSize (w.alloc (.cells c T)) w.heap.size = c.size := by
  simp only [blkSize, heap_alloc_new w _]

/-- The grown array in its new block. -/
theorem CfgF.grow {n A β E H a w} (h : CfgF n A β E H a w) {id T sz : Nat} {es ys : List (List D)} (ho : H id = some (.arr T sz es)) {olds news tail : List Value}
    (ho1 : RepDs w A es.flatten olds) (ho2 : ∀ e ∈ es, e.length = sz) (hn1 : RepDs w A ys.flatten news) (hn2 : ∀ e ∈ ys, e.length = sz) (hLB : es.length + ys.length ≤ LB)
    (hy : ys ≠ []) (c : Array Value) (hc : c.toList = olds ++ news ++ tail) (hcs : (es.length + ys.length) * sz ≤ c.size) :
    CfgF n A (fun i => if i = id then some w.heap.size else β i) E (fun i => if i = id then some (.arr T sz (es ++ ys)) else H i) a (w.drew.alloc (.cells c T)) ∧
    Trans w A β H (w.drew.alloc (.cells c T)) A (fun i => if i = id then some w.heap.size else β i) (fun i => if i = id then some (.arr T sz (es ++ ys)) else H i) := by
  refine h.change ho (.arr T sz (es ++ ys)) (β' := fun i => if i = id then some w.heap.size else β i) (b' := w.heap.size) (by simp) rfl rfl rfl (fun b hb _ => heap_alloc_old w.drew _ b hb) (fun i hi => by simp [hi]) (by simp) (.inr (Nat.le_refl _)) ?_ ?_
  · refine ⟨rfl, rfl, by simp, fun e => ?_⟩
    rw [List.length_append] at e
    have : ys.length = 0 := by omega
    exact absurd (List.eq_nil_of_length_eq_zero this) hy
  · refine ⟨by rw [List.length_append]; exact hLB, c, heap_alloc_new w.drew _, by rw [List.length_append]; exact hcs, fun e he => ?_, olds ++ news, tail, hc, by rw [List.flatten_append]; exact ho1.append hn1⟩
    rcases List.mem_append.1 he with he | he
    · exact ho2 e he
    · exact hn2 e he

theorem sem_append {P n d nm t x y tr p e g E H} (hd : ∀ i, d = some i → i < n) (hf : evalA E x = .nils → Fresh nm E H) (h : (aAppend P nm t (evalA E x) (evalA E y) H).pre) :
    OSem P n ⟨d, .call { callee := .builtin .append, args := #[x, y], argTypes := #[t, t] }, tr, p, e, g⟩ E H (aAppend P nm t (evalA E x) (evalA E y) H).res (aAppend P nm t (evalA E x) (evalA E y) H).upd :=
  OSem.value hd fun A β a w hc => by
    have h2 := hc.eval x
    have h3 := hc.eval y
    generalize evalA E x = X at *
    generalize evalA E y = Y at *
    have run : ∀ v w', (Builtin.append_ #[t, t] tr #[a.eval x, a.eval y]).run P w = .ok v w' →
        (execOp a.eval ⟨d, .call { callee := .builtin .append, args := #[x, y], argTypes := #[t, t] }, tr, p, e, g⟩).run P w = .ok (.value v) w' := fun v w' hr =>
      run_builtin_op (Builtin.append_ #[t, t] tr #[a.eval x, a.eval y]) (fun _ => by simp [builtin]) hr
    unfold aAppend at h ⊢
    split at h
    · obtain ⟨_, g1, g2, g3, g4, g5, g6, g7⟩ := h
      obtain ⟨el, hel⟩ := TK.sl_of g1
      have hu := und_slice hel
      have hel' : (mkTI P t).k.el = el := by rw [hel]; rfl
      simp only [hel'] at g2 g3 g5 g6 ⊢
      obtain ⟨i, z, hi, hs, hby, hz, hzs⟩ := info_zero g2 g3
      obtain ⟨ad, c, news, e1, hnl, hnr, hnLB, hnc⟩ := esOf_rep hc h3 g4 (mkTI P el).size g5
      simp only [RepV] at h2
      obtain ⟨a0, e0⟩ := h2
      generalize esOf H Y = ys at *
      have hfr := hf rfl
      -- the empty array, without a block
      have hc0 : CfgF n A (fun i => if i = nm then none else β i) E (fun i => if i = nm then some (.arr el (mkTI P el).size []) else H i) a w ∧
          Trans w A β H w A (fun i => if i = nm then none else β i) (fun i => if i = nm then some (.arr el (mkTI P el).size []) else H i) := by
        have idok : ∀ i o', (if i = nm then some (.arr el (mkTI P el).size []) else H i) = some o' → (∃ o, H i = some o ∧ Keep w w β (fun i => if i = nm then none else β i) i o o') ∨ Fresh i E H := fun i o' ho' => by
          by_cases e : i = nm
          · subst e; exact .inr hfr
          · simp only [e, if_false] at ho'
            refine .inl ⟨o', ho', ?_⟩
            cases o' with
            | box _ => simp [Keep, e]
            | arr _ _ _ => exact ⟨rfl, rfl, Nat.le_refl _, fun _ => ⟨by simp [e], fun _ _ => rfl⟩⟩
        refine ⟨hc.update (fun _ h => h) (fun _ _ => rfl) idok ⟨fun id cs hi => ?_, fun id T sz es hi => ?_, fun i j b hi hj hb1 hb2 => ?_, fun i b hi hb => ?_, hc.heap.bound⟩,
          ⟨Nat.le_refl _, rfl, rfl, rfl, fun _ _ _ => rfl, fun _ h => h, fun _ h => .inl h, fun i b hi hb => ?_, fun i o o' ho ho' => ?_⟩⟩
        · by_cases e : id = nm
          · subst e; simp at hi
          · simp only [e, if_false] at hi
            obtain ⟨b, cc, T, hb, hcc, hr⟩ := hc.heap.box id cs hi
            refine ⟨b, cc, T, by simpa [e] using hb, hcc, RepVs.stable (fun _ h => h) (fun _ _ => rfl) _ _ (fun i hi' o1 ho1 => ?_) hr⟩
            rcases idok i o1 ho1 with h1 | h1
            · exact h1
            · exact absurd hi' (h1.2.2 id _ hi)
        · by_cases e : id = nm
          · subst e
            simp only [if_true, Option.some.injEq, AObj.arr.injEq] at hi
            obtain ⟨rfl, rfl, rfl⟩ := hi
            exact ⟨by simp, .inl ⟨by simp, rfl⟩⟩
          · simp only [e, if_false] at hi ⊢
            exact hc.heap.arr id T sz es hi
        · by_cases e1 : i = nm <;> by_cases e2 : j = nm <;> simp only [e1, e2, if_true, if_false] at hi hj hb1 hb2
          · cases hb1
          · cases hb1
          · cases hb2
          · exact hc.heap.inj i j b hi hj hb1 hb2
        · by_cases e : i = nm <;> simp only [e, if_true, if_false] at hi hb
          · cases hb
          · exact hc.heap.sepA i b hi hb
        · by_cases e : i = nm <;> simp only [e, if_true, if_false] at hi hb
          · cases hb
          · exact .inr ⟨i, hi, hb⟩
        · rcases idok i o' ho' with ⟨o2, h1, h4⟩ | h1
          · rw [ho] at h1; cases h1; exact h4
          · rw [h1.1] at ho; cases ho
      obtain ⟨hc1, ht1⟩ := hc0
      by_cases hy : ys = []
      · subst hy
        rw [e0, e1] at run
        refine ⟨_, _, _, _, run _ _ (run_append_none w t tr el i hu hi a0 0 ad c), by rw [updF_one]; exact hc1, ?_, by rw [updF_one]; exact ht1⟩
        rw [updF_one]
        simp only [RepV, if_true, RepArr, List.length_nil]
        exact ⟨⟨_, _, rfl, Nat.le_refl _⟩, Nat.le_refl _, fun _ => .inl ⟨trivial, trivial, _, rfl⟩⟩
      · have hyl : 0 < ys.length := List.length_pos_iff.2 hy
        rw [e0, e1] at run
        have hr := run_append_grow' (P := P) w t tr el i z hu hi hz a0 0 0 [] (by simp) (.inl rfl) ad ys.length c news (by rw [hs]; exact hnl)
          (hnc.imp (fun h => h) fun ⟨b, o, e, h⟩ => ⟨_, e, fun j v hj => by rw [add_eq]; exact h j v hj⟩) (by omega) (by simp only [LB] at g7; omega) (by rw [Nat.zero_add]; exact growslice_fits hyl (by rw [hby]; exact g6))
        obtain ⟨hc2, ht2⟩ := hc1.grow (id := nm) (T := el) (sz := (mkTI P el).size) (ys := ys) (es := []) (by simp) (olds := []) (news := news) (by simp [RepDs]) (by simp) hnr g5 (by simpa using g7) hy
          (#[] ++ news.toArray ++ Builtin.zeroCells z.cells (grownCap w (0 + ys.length) 0 el - (0 + ys.length))) (tail := (Builtin.zeroCells z.cells (grownCap w (0 + ys.length) 0 el - (0 + ys.length))).toList) (by simp)
          (by simp [hnl])
        have hge := grownCap_ge w (0 + ys.length) 0 el
        have hcm := grownCap_le_maxLen w (0 + ys.length) 0 el (by simp only [LB, maxLen] at *; omega)
        refine ⟨_, _, A, (fun i => if i = nm then some w.heap.size else if i = nm then none else β i), run _ _ hr, ?_, ?_, ?_⟩
        · rw [updF_one]
          have e4 : (fun i => if i = nm then some (AObj.arr el (mkTI P el).size ([] ++ ys)) else if i = nm then some (AObj.arr el (mkTI P el).size []) else H i) = fun i => if i = nm then some (AObj.arr el (mkTI P el).size ys) else H i := by
            funext i; by_cases e : i = nm <;> simp [e]
          rw [e4] at hc2
          exact hc2
        · rw [updF_one]
          simp only [RepV, if_true, RepArr, Nat.zero_add] at hge hcm ⊢
          refine ⟨⟨_, _, rfl, hge⟩, Nat.le_refl _, fun _ => .inr ⟨w.heap.size, _, _, rfl, rfl, .inr (by simp), ?_, by simp only [maxLen] at hcm; omega⟩⟩
          refine Eq.trans ?_ (blk_new w.drew _ el).symm
          simp only [Array.size_append, List.size_toArray, hnl, size_zeroCells, hzs, List.length_nil, Nat.zero_add, ← Nat.add_mul]
          congr 1
          omega
        · have := ht1.comp ht2 fun i h4 h5 => by
            by_cases e : i = nm
            · subst e; exact absurd hfr.1 h4
            · simp only [e, if_false] at h5; exact absurd h5 h4
          rw [updF_one]
          have e4 : (fun i => if i = nm then some (AObj.arr el (mkTI P el).size ([] ++ ys)) else if i = nm then some (AObj.arr el (mkTI P el).size []) else H i) = fun i => if i = nm then some (AObj.arr el (mkTI P el).size ys) else H i := by
            funext i; by_cases e : i = nm <;> simp [e]
          rw [e4] at this
          exact this
    · rename_i id len
      split at h
      rotate_left
      · exact h.elim
      rename_i T sz es ho
      obtain ⟨g1, g2, g3, g4, g5, g6, g7, g8, g9, g10⟩ := h
      obtain ⟨el, hel⟩ := TK.sl_of g1
      have hu := und_slice hel
      have hel' : (mkTI P t).k.el = el := by rw [hel]; rfl
      simp only [hel'] at g2 g3 g5 g8 g9 ⊢
      subst g2
      subst g6
      obtain ⟨i, z, hi, hs, hby, hz, hzs⟩ := info_zero (by rw [← g3]; exact g4) g5
      rw [← g3] at hs hzs g8
      obtain ⟨ad, c, news, e1, hnl, hnr, hnLB, hnc⟩ := esOf_rep hc h3 g7 sz g8
      generalize esOf H Y = ys at *
      have hnc' : ys.length = 0 ∨ ∃ ad', ad = some ad' ∧ ∀ (j : Nat) (v : Value), news[j]? = some v → w.cell? (ad'.add j) = some v :=
        hnc.imp (fun h => h) fun ⟨b, o, e, h⟩ => ⟨_, e, fun j v hj => by rw [add_eq]; exact h j v hj⟩
      simp only [RepV, ho] at h2
      obtain ⟨⟨a1, cap1, e0, hcap1⟩, _, hstrong⟩ := h2
      have hst := hstrong (by omega)
      clear hstrong
      obtain ⟨hLB, harr⟩ := hc.heap.arr id T sz es ho
      rw [e0, e1] at run
      have hsame : ys = [] → (fun i => if i = id then some (AObj.arr T sz (es ++ ys)) else H i) = H := by
        rintro rfl
        funext j
        by_cases e : j = id
        · subst e; simp [ho]
        · simp [e]
      -- the array grows into a new block
      have grow : ∀ (olds : List Value), RepDs w A es.flatten olds → olds.length = es.length * sz → (∀ e ∈ es, e.length = sz) →
          (es.length = 0 ∨ ∃ ad', a1 = some ad' ∧ ∀ (j : Nat) (v : Value), olds[j]? = some v → w.cell? (ad'.add j) = some v) → cap1 < es.length + ys.length →
          ∃ v w' A' β', (execOp a.eval ⟨d, .call { callee := .builtin .append, args := #[x, y], argTypes := #[t, t] }, tr, p, e, g⟩).run P w = .ok (.value v) w' ∧
            CfgF n A' β' E (fun i => if i = id then some (.arr T sz (es ++ ys)) else H i) a w' ∧ RepV w' A' β' (fun i => if i = id then some (.arr T sz (es ++ ys)) else H i) (.arr id 0 (es.length + ys.length)) v ∧
            Trans w A β H w' A' β' (fun i => if i = id then some (.arr T sz (es ++ ys)) else H i) := by
        intro olds ho1 hol ho2 hread hlt
        have hr := run_append_grow' (P := P) w t tr T i z hu hi hz a1 es.length cap1 olds (by rw [hs]; exact hol) hread ad ys.length c news (by rw [hs]; exact hnl) hnc' hlt
          (by simp only [LB] at g10; omega) (growslice_fits (by omega) (by rw [hby]; exact g9))
        have hge := grownCap_ge w (es.length + ys.length) cap1 T
        have hcm := grownCap_le_maxLen w (es.length + ys.length) cap1 T (by simp only [LB, maxLen] at *; omega)
        have hy : ys ≠ [] := by rintro rfl; simp at hlt; omega
        obtain ⟨hc2, ht2⟩ := hc.grow ho (olds := olds) (news := news) ho1 ho2 hnr g8 g10 hy
          (olds.toArray ++ news.toArray ++ Builtin.zeroCells z.cells (grownCap w (es.length + ys.length) cap1 T - (es.length + ys.length))) (tail := (Builtin.zeroCells z.cells (grownCap w (es.length + ys.length) cap1 T - (es.length + ys.length))).toList) (by simp)
          (by simp only [Array.size_append, List.size_toArray, hol, hnl, Nat.add_mul]; omega)
        refine ⟨_, _, A, _, run _ _ hr, hc2, ?_, ht2⟩
        simp only [RepV, if_true, RepArr, List.length_append, Nat.zero_add]
        refine ⟨⟨_, _, rfl, hge⟩, Nat.le_refl _, fun _ => .inr ⟨w.heap.size, _, _, rfl, rfl, .inr (by simp), ?_, by simp only [maxLen] at hcm; omega⟩⟩
        refine Eq.trans ?_ (blk_new w.drew _ T).symm
        simp only [Array.size_append, List.size_toArray, hol, hnl, size_zeroCells, hzs, ← Nat.add_mul]
        congr 1
        omega
      have none0 : es.length = 0 → ys = [] →
          ∃ v w' A' β', (execOp a.eval ⟨d, .call { callee := .builtin .append, args := #[x, y], argTypes := #[t, t] }, tr, p, e, g⟩).run P w = .ok (.value v) w' ∧
            CfgF n A' β' E (fun i => if i = id then some (.arr T sz (es ++ ys)) else H i) a w' ∧ RepV w' A' β' (fun i => if i = id then some (.arr T sz (es ++ ys)) else H i) (.arr id 0 (es.length + ys.length)) v ∧
            Trans w A β H w' A' β' (fun i => if i = id then some (.arr T sz (es ++ ys)) else H i) := by
        intro hl hy
        rw [hsame hy]
        subst hy
        rw [hl] at run e0
        refine ⟨_, w, A, β, run _ _ (run_append_none w t tr T i hu hi a1 cap1 ad c), hc, ?_, Trans.refl _ _ _ _⟩
        have := hc.eval x
        rw [e0] at this
        simp only [List.length_nil, Nat.add_zero, RepV, ho, RepArr, hl]
        rw [hl] at hst hcap1
        refine ⟨⟨a1, cap1, rfl, hcap1⟩, by omega, fun _ => ?_⟩
        rw [e0] at hst
        exact hst.imp (fun ⟨h1, _, h3⟩ => ⟨h1, trivial, h3⟩) (fun h => h)
      rw [updF_one]
      rcases hst with ⟨hb, _, a2, e2⟩ | ⟨b, a2, cap2, hb, e2, ha, hblk, hmax⟩
      · rw [e0] at e2
        simp only [Value.slice.injEq] at e2
        obtain ⟨rfl, hl0, rfl⟩ := e2
        rcases harr with ⟨_, hes⟩ | ⟨b', _, hb', _⟩
        · subst hes
          by_cases hy : ys = []
          · exact none0 rfl hy
          · exact grow [] (by simp [RepDs]) (by simp) (by simp) (.inl rfl) (by have := List.length_pos_iff.2 hy; simp; omega)
        · rw [hb] at hb'; cases hb'
      · rw [e0] at e2; cases e2
        rcases harr with ⟨hb', _⟩ | ⟨b', cur, hb', hcc, hle, hr⟩
        · rw [hb] at hb'; cases hb'
        rw [hb] at hb'; cases hb'
        obtain ⟨ho2, olds, hol, ho1, hocell⟩ := hr.values
        by_cases hroom : es.length + ys.length ≤ cap1
        · by_cases h0 : cap1 = 0
          · exact none0 (by omega) (List.eq_nil_of_length_eq_zero (by omega))
          rcases ha with ha | ha
          · exact absurd ha h0
          have ha' : a2 = ⟨b, 0, none⟩ := by rw [ha, Nat.zero_mul]
          subst ha'
          have hcur : cur.size = cap1 * sz := by
            have h7 := hblk
            simp only [blkSize, hcc, Nat.zero_add] at h7
            exact h7.symm
          have hfit : es.length * sz + news.length ≤ cur.size := by
            rw [hnl, hcur, ← Nat.add_mul]; exact Nat.mul_le_mul_right _ hroom
          have hrun := run_append_room' (P := P) w t tr T i hu hi b es.length cap1 cur T hcc ad ys.length c news (by rw [hs]; exact hnl) hnc' hnr.oneCell hroom (by rw [hs]; exact hfit)
          rw [hs] at hrun
          have htake : cur.toList.take (es.length * sz) = olds := by
            apply List.ext_getElem?
            intro j
            rw [List.getElem?_take]
            by_cases hj : j < es.length * sz
            · rw [if_pos hj]
              have h8 := hocell j (olds[j]'(by omega)) (by simp)
              rw [Nat.zero_add] at h8
              simp only [World.cell?, hcc, Option.isSome_none, Bool.false_eq_true, if_false] at h8
              rw [Array.getElem?_toList, h8]
              simp
            · rw [if_neg hj, List.getElem?_eq_none (by omega)]
          have hsz : (cur.toList.take (es.length * sz) ++ news ++ cur.toList.drop (es.length * sz + news.length)).toArray.size = cur.size := by
            simp only [List.size_toArray, List.length_append, List.length_take, List.length_drop, Array.length_toList]
            omega
          obtain ⟨hc2, ht2⟩ := hc.write ho (.arr T sz (es ++ ys)) (c' := (cur.toList.take (es.length * sz) ++ news ++ cur.toList.drop (es.length * sz + news.length)).toArray) hb hcc hsz
            ⟨rfl, rfl, rfl, by simp, by rw [List.length_append]; exact g10, by rw [List.length_append, hsz, Nat.add_mul, ← hnl]; exact hfit, fun e he => by
              rcases List.mem_append.1 he with he | he
              · exact ho2 e he
              · exact g8 e he, olds ++ news, cur.toList.drop (es.length * sz + news.length), by rw [htake], by rw [List.flatten_append]; exact ho1.append hnr⟩
          refine ⟨_, _, A, β, run _ _ hrun, hc2, ?_, ht2⟩
          simp only [RepV, if_true, RepArr, List.length_append, Nat.zero_add]
          refine ⟨⟨_, _, rfl, hroom⟩, Nat.le_refl _, fun _ => .inr ⟨b, _, cap1, hb, rfl, .inr (by simp), ?_, hmax⟩⟩
          simp only [blkSize, setRow_heap w b cur _ T _ hcc, hsz, hcur]
        · refine grow olds ho1 hol ho2 ?_ (by omega)
          by_cases h0 : es.length = 0
          · exact .inl h0
          · rcases ha with ha | ha
            · omega
            · refine .inr ⟨_, rfl, fun j v hj => ?_⟩
              rw [ha, add_eq, Nat.zero_mul]
              exact hocell j v hj
    · exact h.elim
end Go.AX
