import Derived.Test.YtmggphnhfegffaaAxZb
set_option linter.unusedVariables false
set_option linter.unusedSimpArgs false
namespace Go.AX

/-- The variable of a tape of numbers. -/
def tape (l : List Int) (at' : Nat) : AObj := .box [.d (.sl (ints l)), .d (.int .i64 at')]
theorem tape_ids (l : List Int) (a : Nat) : (tape l a).ids = [] := rfl

/-! ### other views of the same memory -/
theorem CfgF.recast {n A β E H a w A1 β1 H1} (h : CfgF n A β E H a w) (h1 : CfgF n A1 β1 E H1 a w) {E' : EF} {H2 : HF} (hE : ∀ t v, RepV w A β H (E t) v → RepV w A1 β1 H1 (E' t) v)
    (hb : ∀ i cs', H2 i = some (.box cs') → ∃ cs, H i = some (.box cs) ∧ H1 i = some (.box cs) ∧ β1 i = β i ∧ ∀ vs, RepVs w A β H cs vs → RepVs w A1 β1 H1 cs' vs)
    (ha : ∀ i T sz es, H2 i = some (.arr T sz es) → H1 i = some (.arr T sz es)) : CfgF n A1 β1 E' H2 a w ∧ Trans w A1 β1 H1 w A1 β1 H2 := by
  have hk : ∀ i o', H2 i = some o' → ∃ o, H1 i = some o ∧ Keep w w β1 β1 i o o' := fun i o' ho' => by
    cases o' with
    | box cs' =>
      obtain ⟨cs, _, h3, _⟩ := hb i cs' ho'
      exact ⟨_, h3, rfl⟩
    | arr T sz es => exact ⟨_, ha i T sz es ho', Keep.refl _ _ _ _⟩
  have hn : ∀ i, H2 i ≠ none → H1 i ≠ none := fun i hi => by
    cases ho : H2 i with
    | none => exact absurd ho hi
    | some o => obtain ⟨o1, h3, _⟩ := hk i o ho; rw [h3]; simp
  have hs : ∀ x v, RepV w A1 β1 H1 x v → RepV w A1 β1 H2 x v := fun x v hv => RepV.stable (fun _ h => h) (fun _ _ => rfl) _ _ (fun i _ o' ho' => hk i o' ho') hv
  have hss : ∀ x v, RepVs w A1 β1 H1 x v → RepVs w A1 β1 H2 x v := fun x v hv => RepVs.stable (fun _ h => h) (fun _ _ => rfl) _ _ (fun i _ o' ho' => hk i o' ho') hv
  refine ⟨⟨h.size, h.defers, fun t => hs _ _ (hE t _ (h.env t)), ⟨fun id cs' hi => ?_, fun id T sz es hi => h1.heap.arr id T sz es (ha id T sz es hi), fun i j b hi hj => h1.heap.inj i j b (hn i hi) (hn j hj), fun i b hi => h1.heap.sepA i b (hn i hi), h1.heap.bound⟩⟩,
    ⟨Nat.le_refl _, rfl, rfl, rfl, fun _ _ _ => rfl, fun _ h => h, fun _ h => .inl h, fun i b hi hb => .inr ⟨i, hn i hi, hb⟩, fun i o o' h3 h4 => by
      obtain ⟨o2, h5, h6⟩ := hk i o' h4
      rw [h3] at h5; cases h5; exact h6⟩⟩
  obtain ⟨cs, g1, g2, g3, g4⟩ := hb id cs' hi
  obtain ⟨b, c, T, k1, k2, k3⟩ := h.heap.box id cs g1
  exact ⟨b, c, T, by rw [g3]; exact k1, k2, hss _ _ (g4 _ k3)⟩

theorem CfgF.addNil {n A β E H a w} (h : CfgF n A β E H a w) {nm : Nat} (hf : Fresh nm E H) (T sz : Nat) :
    CfgF n A (fun i => if i = nm then none else β i) E (fun i => if i = nm then some (.arr T sz []) else H i) a w ∧
    Trans w A β H w A (fun i => if i = nm then none else β i) (fun i => if i = nm then some (.arr T sz []) else H i) := by
  have hk : ∀ i o', (if i = nm then some (.arr T sz []) else H i) = some o' → (∃ o, H i = some o ∧ Keep w w β (fun i => if i = nm then none else β i) i o o') ∨ Fresh i E H := fun i o' ho' => by
    by_cases e : i = nm
    · subst e; exact .inr hf
    · rw [if_neg e] at ho'
      refine .inl ⟨o', ho', ?_⟩
      cases o' with
      | box _ => simp only [Keep]; rw [if_neg e]
      | arr _ _ _ => exact ⟨rfl, rfl, Nat.le_refl _, fun _ => ⟨by simp only [e, if_false], fun _ _ => rfl⟩⟩
  have hne : ∀ i, i ≠ nm → (if i = nm then some (AObj.arr T sz []) else H i) = H i := fun i e => if_neg e
  refine ⟨h.update (fun _ h => h) (fun _ _ => rfl) hk ?_, ⟨Nat.le_refl _, rfl, rfl, rfl, fun _ _ _ => rfl, fun _ h => h, fun _ h => .inl h, fun i b hi hb => ?_, fun i o o' ho ho' => ?_⟩⟩
  · refine ⟨fun id cs hi => ?_, fun id T' sz' es hi => ?_, fun i j b hi hj hb1 hb2 => ?_, fun i b hi hb => ?_, h.heap.bound⟩
    · by_cases e : id = nm
      · simp [e] at hi
      · rw [if_neg e] at hi
        obtain ⟨b, c, T', h1, h2, h3⟩ := h.heap.box id cs hi
        exact ⟨b, c, T', by rw [if_neg e]; exact h1, h2, RepVs.stable (fun _ h => h) (fun _ _ => rfl) _ _ (fun i him o' ho' => by
          rcases hk i o' ho' with h4 | h4
          · exact h4
          · exact absurd him (h4.2.2 id _ hi)) h3⟩
    · by_cases e : id = nm
      · simp [e] at hi
        obtain ⟨rfl, rfl, rfl⟩ := hi
        exact ⟨by simp, .inl ⟨by simp [e], rfl⟩⟩
      · rw [if_neg e] at hi
        obtain ⟨h1, h2⟩ := h.heap.arr id T' sz' es hi
        exact ⟨h1, by simp only [e, if_false]; exact h2⟩
    · by_cases e1 : i = nm
      · simp [e1] at hb1
      · by_cases e2 : j = nm
        · simp [e2] at hb2
        · simp only [e1, e2, if_false] at hi hj hb1 hb2
          exact h.heap.inj i j b hi hj hb1 hb2
    · by_cases e1 : i = nm
      · simp [e1] at hb
      · simp only [e1, if_false] at hi hb
        exact h.heap.sepA i b hi hb
  · by_cases e1 : i = nm
    · simp [e1] at hb
    · simp only [e1, if_false] at hi hb
      exact .inr ⟨i, hi, hb⟩
  · rcases hk i o' ho' with ⟨o2, h1, h2⟩ | h1
    · rw [ho] at h1; cases h1; exact h2
    · rw [h1.1] at ho; cases ho

/-- nil taken as an empty array -/
def upV (nm : Nat) (x x' : AV) : Prop := x = x' ∨ (x = .nils ∧ x' = .arr nm 0 0)
def upVs (nm : Nat) : List AV → List AV → Prop
  | [], [] => True
  | x :: r, x' :: r' => upV nm x x' ∧ upVs nm r r'
  | _, _ => False
def upE (nm : Nat) (E : EF) : EL → Prop
  | [] => True
  | (t, x) :: r => upV nm (E t) x ∧ upE nm E r
def upO (nm : Nat) : Option AObj → Option AObj → Prop
  | some (.box cs), some (.box cs') => upVs nm cs cs'
  | o, o' => o = o'
def upH (nm : Nat) (H : HF) : HL → Prop
  | [] => True
  | (i, o) :: r => (i ≠ nm ∧ upO nm (H i) o) ∧ upH nm H r

theorem upV_rep {nm w A β H} (hb : β nm = none) {T sz} (hH : H nm = some (.arr T sz [])) {x x' : AV} (h : upV nm x x') {v} (hv : RepV w A β H x v) : RepV w A β H x' v := by
  rcases h with rfl | ⟨rfl, rfl⟩
  · exact hv
  · simp only [RepV] at hv
    obtain ⟨a, rfl⟩ := hv
    simp only [RepV, hH]
    exact ⟨⟨a, 0, rfl, Nat.le_refl _⟩, by simp, fun _ => .inl ⟨hb, rfl, a, rfl⟩⟩
theorem upVs_rep {nm w A β H} (hb : β nm = none) {T sz} (hH : H nm = some (.arr T sz [])) : ∀ {x x' : List AV}, upVs nm x x' → ∀ {v}, RepVs w A β H x v → RepVs w A β H x' v
  | [], [], _, v, hv => hv
  | x :: r, x' :: r', h, v, hv => by
    simp only [RepVs] at hv ⊢
    obtain ⟨v, t, rfl, h1, h2⟩ := hv
    exact ⟨v, t, rfl, upV_rep hb hH h.1 h1, upVs_rep hb hH h.2 h2⟩
  | [], _ :: _, h, _, _ => by simp only [upVs] at h
  | _ :: _, [], h, _, _ => by simp only [upVs] at h
theorem upE_get {nm E} : ∀ {e : EL}, upE nm E e → ∀ t, eget e t = .any ∨ upV nm (E t) (eget e t)
  | [], _, t => .inl rfl
  | (j, x) :: r, h, t => by
    simp only [eget]
    split
    · rename_i e; subst e; exact .inr h.1
    · exact upE_get h.2 t
theorem upH_get {nm H} : ∀ {h : HL}, upH nm H h → ∀ i, hget h i = none ∨ (i ≠ nm ∧ upO nm (H i) (hget h i))
  | [], _, i => .inl rfl
  | (j, x) :: r, h, i => by
    simp only [hget]
    split
    · rename_i e; subst e; exact .inr h.1
    · exact upH_get h.2 i

/-- Ways that come together again. -/
theorem Walk.fork {P n nb R} {k : List Item} {s : St} {c : Code} {G : Type} (S : G → St) (I : G → Prop) (h1 : ∀ g, I g → Walk P n nb k R (S g)) (h2 : (∀ g, I g → Walk P n nb k R (S g)) → Walk P n nb (.code c :: k) R s) :
    Walk P n nb (.code c :: k) R s := h2 h1

theorem upVs_refl (nm : Nat) : ∀ cs : List AV, upVs nm cs cs
  | [] => trivial
  | x :: r => ⟨.inl rfl, upVs_refl nm r⟩
theorem upO_refl (nm : Nat) (o : Option AObj) : upO nm o o = True := by
  cases o with
  | none => simp [upO]
  | some o => cases o with
    | box cs => simp [upO, upVs_refl]
    | arr _ _ _ => simp [upO]
theorem upO_box (nm : Nat) (cs cs' : List AV) : upO nm (some (.box cs)) (some (.box cs')) = upVs nm cs cs' := rfl

theorem Walk.ghost {P n nb R k} {s : St} (s' : St) (hg : ∀ A β a w, CfgF n A β (eget s.e) (hget s.h) a w → ∃ A' β', CfgF n A' β' (eget s'.e) (hget s'.h) a w ∧ Trans w A β (hget s.h) w A' β' (hget s'.h))
    (hnb : ∀ i, hget s.h i = none → hget s'.h i ≠ none → nb ≤ i) (h : Walk P n nb k R s') : Walk P n nb k R s := by
  obtain ⟨t, h1, h2⟩ := h
  refine ⟨t, h1, fun B hB a w hc b cs => ?_⟩
  obtain ⟨A, β, g1, g2⟩ := hc
  obtain ⟨A', β', g3, g4⟩ := hg A β a w g1
  refine h2 B hB a w ⟨A', β', g3, g2.comp g4 fun i hi hn => ?_⟩ b cs
  cases ho : hget s'.h i with
  | none => rfl
  | some o => have := hnb i hn (by simp [ho]); have := hB i hi; omega

/-- nil slices in slots and in boxes are taken as one empty array. -/
theorem Walk.up {P n nb R k} {s : St} (nm T sz : Nat) (e' : EL) (h' : HL) (hE : upE nm (eget s.e) e') (hH : upH nm (hget s.h) h') (hnm : nb ≤ nm) (h0 : hget s.h nm = none) (f1 : freshE nm s.e) (f2 : freshH nm s.h)
    (h : Walk P n nb k R ⟨e', (nm, some (.arr T sz [])) :: h'⟩) : Walk P n nb k R s := by
  have hge : ∀ i, hget ((nm, some (AObj.arr T sz [])) :: h') i = if i = nm then some (.arr T sz []) else hget h' i := fun i => rfl
  refine h.ghost _ (fun A β a w hc => ?_) fun i hn hs => ?_
  · obtain ⟨g1, g2⟩ := hc.addNil (fresh_of f1 f2) T sz
    have hnmH : (fun i => if i = nm then some (AObj.arr T sz []) else hget s.h i) nm = some (.arr T sz []) := by simp
    have hst : ∀ x v, (∀ i ∈ x.ids, i ≠ nm) → RepV w A β (hget s.h) x v → RepV w A (fun i => if i = nm then none else β i) (fun i => if i = nm then some (AObj.arr T sz []) else hget s.h i) x v := fun x v hx hv =>
      RepV.stable (fun _ h => h) (fun _ _ => rfl) _ _ (fun i hi o' ho' => by
        have := hx i hi
        simp only [this, if_false] at ho'
        refine ⟨o', ho', ?_⟩
        cases o' with
        | box _ => simp only [Keep]; rw [if_neg this]
        | arr _ _ _ => exact ⟨rfl, rfl, Nat.le_refl _, fun _ => ⟨by simp only [this, if_false], fun _ _ => rfl⟩⟩) hv
    have hsts : ∀ x v, (∀ i ∈ AV.idsL x, i ≠ nm) → RepVs w A β (hget s.h) x v → RepVs w A (fun i => if i = nm then none else β i) (fun i => if i = nm then some (AObj.arr T sz []) else hget s.h i) x v := fun x v hx hv =>
      RepVs.stable (fun _ h => h) (fun _ _ => rfl) _ _ (fun i hi o' ho' => by
        have := hx i hi
        simp only [this, if_false] at ho'
        refine ⟨o', ho', ?_⟩
        cases o' with
        | box _ => simp only [Keep]; rw [if_neg this]
        | arr _ _ _ => exact ⟨rfl, rfl, Nat.le_refl _, fun _ => ⟨by simp only [this, if_false], fun _ _ => rfl⟩⟩) hv
    obtain ⟨g3, g4⟩ := hc.recast g1 (E' := eget e') (H2 := hget ((nm, some (AObj.arr T sz [])) :: h')) (fun t v hv => by
        rcases upE_get hE t with h3 | h3
        · rw [h3]; simp only [RepV]
        · exact upV_rep (by simp) hnmH h3 (hst _ v (fun i hi e => freshE_get f1 t (e ▸ hi)) hv))
      (fun i cs' hi => by
        rw [hge] at hi
        by_cases e : i = nm
        · simp [e] at hi
        · rw [if_neg e] at hi
          rcases upH_get hH i with h3 | ⟨_, h3⟩
          · rw [h3] at hi; cases hi
          · rw [hi] at h3
            cases ho : hget s.h i with
            | none => rw [ho] at h3; simp [upO] at h3
            | some o =>
              rw [ho] at h3
              cases o with
              | arr _ _ _ => simp [upO] at h3
              | box cs =>
                simp only [upO] at h3
                refine ⟨cs, rfl, by simp [e, ho], by simp [e], fun vs hvs => upVs_rep (by simp) hnmH h3 (hsts _ vs (fun j hj ej => ?_) hvs)⟩
                exact (freshH_get f2).2 i _ ho (ej ▸ hj))
      (fun i T' sz' es hi => by
        rw [hge] at hi
        by_cases e : i = nm
        · rw [if_pos e] at hi ⊢; exact hi
        · rw [if_neg e] at hi
          simp only [e, if_false]
          rcases upH_get hH i with h3 | ⟨_, h3⟩
          · rw [h3] at hi; cases hi
          · rw [hi] at h3
            cases ho : hget s.h i with
            | none => rw [ho] at h3; simp [upO] at h3
            | some o =>
              rw [ho] at h3
              cases o with
              | arr _ _ _ => simpa [upO] using h3
              | box cs => simp [upO] at h3)
    exact ⟨A, _, g3, g2.comp g4 fun i hi hn => by
      rw [hge]
      by_cases e : i = nm
      · simp [e] at hn
      · rw [if_neg e] at hn ⊢
        rcases upH_get hH i with h3 | ⟨_, h3⟩
        · exact h3
        · exact absurd hn hi⟩
  · simp only at hs
    rw [hge] at hs
    by_cases e : i = nm
    · omega
    · rw [if_neg e] at hs
      rcases upH_get hH i with h3 | ⟨_, h3⟩
      · exact absurd h3 hs
      · rw [hn] at h3
        simp only [upO] at h3
        exact absurd h3.symm hs

/-- an array taken as data, for good -/
def frV (id : Nat) (es : List (List D)) (x x' : AV) : Prop := x = x' ∨ ∃ off len, x = .arr id off len ∧ off + len = es.length ∧ x' = .d (.sl ((es.drop off).take len))
def frVs (id : Nat) (es : List (List D)) : List AV → List AV → Prop
  | [], [] => True
  | x :: r, x' :: r' => frV id es x x' ∧ frVs id es r r'
  | _, _ => False
def frE (id : Nat) (es : List (List D)) (E : EF) : EL → Prop
  | [] => True
  | (t, x) :: r => frV id es (E t) x ∧ frE id es E r
def frO (id : Nat) (es : List (List D)) : Option AObj → Option AObj → Prop
  | some (.box cs), some (.box cs') => frVs id es cs cs'
  | o, o' => o = o'
def frH (id : Nat) (es : List (List D)) (H : HF) : HL → Prop
  | [] => True
  | (i, o) :: r => (i ≠ id ∧ frO id es (H i) o) ∧ frH id es H r
theorem frE_get {id es E} : ∀ {e : EL}, frE id es E e → ∀ t, eget e t = .any ∨ frV id es (E t) (eget e t)
  | [], _, t => .inl rfl
  | (j, x) :: r, h, t => by
    simp only [eget]
    split
    · rename_i e; subst e; exact .inr h.1
    · exact frE_get h.2 t
theorem frH_get {id es H} : ∀ {h : HL}, frH id es H h → ∀ i, hget h i = none ∨ (i ≠ id ∧ frO id es (H i) (hget h i))
  | [], _, i => .inl rfl
  | (j, x) :: r, h, i => by
    simp only [hget]
    split
    · rename_i e; subst e; exact .inr h.1
    · exact frH_get h.2 i

theorem frV_refl (id : Nat) (es x) : frV id es x x = True := by simp [frV]
theorem frV_arr (id : Nat) (es) (off len : Nat) (x : D) : frV id es (.arr id off len) (.d x) = (off + len = es.length ∧ x = .sl ((es.drop off).take len)) := by
  simp only [frV, reduceCtorEq, false_or, AV.arr.injEq, true_and, AV.d.injEq, eq_iff_iff]
  constructor
  · rintro ⟨o, n, ⟨rfl, rfl⟩, h1, h2⟩; exact ⟨h1, h2⟩
  · rintro ⟨h1, h2⟩; exact ⟨off, len, ⟨rfl, rfl⟩, h1, h2⟩
theorem frVs_refl (id : Nat) (es) : ∀ cs : List AV, frVs id es cs cs
  | [] => trivial
  | x :: r => ⟨.inl rfl, frVs_refl id es r⟩
theorem frO_refl (id : Nat) (es) (o : Option AObj) : frO id es o o = True := by
  cases o with
  | none => simp [frO]
  | some o => cases o with
    | box cs => simp [frO, frVs_refl]
    | arr _ _ _ => simp [frO]
theorem frO_box (id : Nat) (es) (cs cs' : List AV) : frO id es (some (.box cs)) (some (.box cs')) = frVs id es cs cs' := rfl

theorem Walk.freeze {P n nb R k} {s : St} (id T sz : Nat) (es : List (List D)) (e' : EL) (h' : HL) (ho : hget s.h id = some (.arr T sz es)) (hE : frE id es (eget s.e) e') (hH : frH id es (hget s.h) h')
    (h : Walk P n nb k R ⟨e', h'⟩) : Walk P n nb k R s := by
  refine h.ghost _ (fun A β a w hc => ?_) fun i hn hs => ?_
  · obtain ⟨g1, g2⟩ := hc.freeze id
    have hk : ∀ i o', (if i = id then none else hget s.h i) = some o' → ∃ o, hget s.h i = some o ∧ Keep w w β β i o o' := fun i o' ho' => by
      by_cases e : i = id
      · simp [e] at ho'
      · rw [if_neg e] at ho'; exact ⟨o', ho', Keep.refl _ _ _ _⟩
    have hst : ∀ x v, RepV w A β (hget s.h) x v → RepV w (fun b => A b ∨ (hget s.h id ≠ none ∧ β id = some b)) β (fun i => if i = id then none else hget s.h i) x v := fun x v hv =>
      RepV.stable (fun _ h => .inl h) (fun _ _ => rfl) _ _ (fun i _ => hk i) hv
    have hfr : ∀ x x' v, frV id es x x' → RepV w A β (hget s.h) x v → RepV w (fun b => A b ∨ (hget s.h id ≠ none ∧ β id = some b)) β (fun i => if i = id then none else hget s.h i) x' v := fun x x' v hf hv => by
      rcases hf with rfl | ⟨off, len, rfl, h1, rfl⟩
      · exact hst x v hv
      · simp only [RepV]
        exact hc.frozen_rep ho hv h1
    have hfrs : ∀ (x x' : List AV) (v : List Value), frVs id es x x' → RepVs w A β (hget s.h) x v → RepVs w (fun b => A b ∨ (hget s.h id ≠ none ∧ β id = some b)) β (fun i => if i = id then none else hget s.h i) x' v := by
      intro x
      induction x with
      | nil =>
        intro x' v hf hv
        cases x' with
        | nil => simpa only [RepVs] using hv
        | cons _ _ => simp only [frVs] at hf
      | cons y r ih =>
        intro x' v hf hv
        cases x' with
        | nil => simp only [frVs] at hf
        | cons y' r' =>
          simp only [RepVs] at hv ⊢
          obtain ⟨u, t, rfl, h1, h2⟩ := hv
          exact ⟨u, t, rfl, hfr _ _ _ hf.1 h1, ih _ _ hf.2 h2⟩
    obtain ⟨g3, g4⟩ := hc.recast g1 (E' := eget e') (H2 := hget h') (fun t v hv => by
        rcases frE_get hE t with h3 | h3
        · rw [h3]; simp only [RepV]
        · exact hfr _ _ v h3 hv)
      (fun i cs' hi => by
        rcases frH_get hH i with h3 | ⟨hne, h3⟩
        · rw [h3] at hi; cases hi
        · rw [hi] at h3
          cases ho : hget s.h i with
          | none => rw [ho] at h3; simp [frO] at h3
          | some o =>
            rw [ho] at h3
            cases o with
            | arr _ _ _ => simp [frO] at h3
            | box cs =>
              simp only [frO] at h3
              exact ⟨cs, rfl, by simp [hne, ho], rfl, fun vs hvs => hfrs _ _ vs h3 hvs⟩)
      (fun i T' sz' es' hi => by
        rcases frH_get hH i with h3 | ⟨hne, h3⟩
        · rw [h3] at hi; cases hi
        · rw [hi] at h3
          simp only [hne, if_false]
          cases ho : hget s.h i with
          | none => rw [ho] at h3; simp [frO] at h3
          | some o =>
            rw [ho] at h3
            cases o with
            | arr _ _ _ => simpa [frO] using h3
            | box cs => simp [frO] at h3)
    refine ⟨_, _, g3, g2.comp g4 fun i hi hn => ?_⟩
    rcases frH_get hH i with h3 | ⟨hne, h3⟩
    · exact h3
    · simp only [hne, if_false] at hn
      exact absurd hn hi
  · rcases frH_get hH i with h3 | ⟨hne, h3⟩
    · exact absurd h3 hs
    · rw [hn] at h3
      simp only [frO] at h3
      exact absurd h3.symm hs
end Go.AX
