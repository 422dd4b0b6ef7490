import Derived.Test.YtmggphnhfegffaaAxF
set_option linter.unusedVariables false
set_option linter.unusedSimpArgs false
namespace Go.AX

/-! ### min, max -/
def aMin (x y : AV) : Out :=
  match x, y with
  | .d (.int k a), .d (.int k' b) => ⟨k = k', .d (.int k (min a b)), []⟩
  | _, _ => fail
def aMax (x y : AV) : Out :=
  match x, y with
  | .d (.int k a), .d (.int k' b) => ⟨k = k', .d (.int k (max a b)), []⟩
  | _, _ => fail

theorem sem_min {P n d x y ts tr p e g E H} (hd : ∀ i, d = some i → i < n) (h : (aMin (evalA E x) (evalA E y)).pre) :
    OSem P n ⟨d, .call { callee := .builtin .min, args := #[x, y], argTypes := ts }, tr, p, e, g⟩ E H (aMin (evalA E x) (evalA E y)).res [] :=
  OSem.pure hd fun A β a w hc => by
    have h2 := hc.eval x
    have h3 := hc.eval y
    generalize evalA E x = X at *
    generalize evalA E y = Y at *
    unfold aMin at h ⊢
    split at h
    · rename_i k b k' b'
      simp only [RepV, RepD] at h2 h3
      have hk : k = k' := h
      subst hk
      refine ⟨.int k (min b b'), run_builtin_op (Builtin.min_ ts tr #[a.eval x, a.eval y]) (fun _ => by simp [builtin]) ?_, ?_⟩
      · simp only [h2.1, h3.1, List.map_toArray, List.map_cons, List.map_nil, Builtin.min_, Builtin.min2, List.foldlM_cons, List.foldlM_nil, Sem.run_bind, Sem.run_pure, Result.andThen_ok]
        congr 2
        rw [Int.min_def]; split <;> split <;> omega
      · simp only [RepV, RepD, true_and]
        have h4 := h2.2
        have h5 := h3.2
        trivial
    · exact h.elim

theorem sem_max {P n d x y ts tr p e g E H} (hd : ∀ i, d = some i → i < n) (h : (aMax (evalA E x) (evalA E y)).pre) :
    OSem P n ⟨d, .call { callee := .builtin .max, args := #[x, y], argTypes := ts }, tr, p, e, g⟩ E H (aMax (evalA E x) (evalA E y)).res [] :=
  OSem.pure hd fun A β a w hc => by
    have h2 := hc.eval x
    have h3 := hc.eval y
    generalize evalA E x = X at *
    generalize evalA E y = Y at *
    unfold aMax at h ⊢
    split at h
    · rename_i k b k' b'
      simp only [RepV, RepD] at h2 h3
      have hk : k = k' := h
      subst hk
      refine ⟨.int k (max b b'), run_builtin_op (Builtin.max_ ts tr #[a.eval x, a.eval y]) (fun _ => by simp [builtin]) ?_, ?_⟩
      · simp only [h2.1, h3.1, List.map_toArray, List.map_cons, List.map_nil, Builtin.max_, Builtin.max2, List.foldlM_cons, List.foldlM_nil, Sem.run_bind, Sem.run_pure, Result.andThen_ok]
        congr 2
        rw [Int.max_def]; split <;> split <;> omega
      · simp only [RepV, RepD, true_and]
        have h4 := h2.2
        have h5 := h3.2
        trivial
    · exact h.elim

/-! ### index of a string, of an array by value -/
def aIndex (P : Program) (t : Nat) (x i : AV) : Out :=
  match x, i with
  | .d (.str s), .d (.int _ j) => ⟨(mkTI P t).k = .str ∧ 0 ≤ j ∧ j < s.length, .d (.int .u8 (s.getD j.toNat 0).toNat), []⟩
  | .agg cs, .d (.int _ j) => match (mkTI P t).k with
    | .array m el => ⟨0 ≤ j ∧ j < m ∧ (mkTI P el).size ≠ 0 ∧ (mkTI P el).k ≠ .other ∧ j.toNat * (mkTI P el).size < cs.length, cut (mkTI P el).isAgg (j.toNat * (mkTI P el).size) (mkTI P el).size cs, []⟩
    | _ => fail
  | _, _ => fail

theorem sem_index {P n d t x i tr p e g E H} (hd : ∀ i, d = some i → i < n) (h : (aIndex P t (evalA E x) (evalA E i)).pre) :
    OSem P n ⟨d, .index t x i, tr, p, e, g⟩ E H (aIndex P t (evalA E x) (evalA E i)).res [] :=
  OSem.pure hd fun A β a w hc => by
    have h2 := hc.eval x
    have h3 := hc.eval i
    generalize evalA E x = X at *
    generalize evalA E i = I at *
    unfold aIndex at h ⊢
    split at h
    · rename_i s k j
      simp only [RepV, RepD] at h2 h3
      obtain ⟨h1, h4, h5⟩ := h
      have hj : j.toNat < s.length := by omega
      refine ⟨.int .u8 (s.getD j.toNat 0).toNat, ?_, ?_⟩
      · have e1 : (⟨s.toArray⟩ : ByteArray)[j.toNat]? = some (s.getD j.toNat 0) := by
          rw [getElem?_pos (⟨s.toArray⟩ : ByteArray) j.toNat (by simpa [mk_size] using hj)]
          simp [hj]
          rfl
        simp [execOp, Instr.index, h2.1, h3.1, asIntOf, run_underlying (und_str h1), h4, e1]
      · simp only [RepV, RepD, true_and, fits]
    · rename_i cs k j
      split at h
      · rename_i m el hk
        obtain ⟨h1, h4, h5, h6, h7⟩ := h
        simp only [RepV, RepD] at h2 h3
        obtain ⟨vs, e1, hr⟩ := h2
        obtain ⟨v, hv, hrep⟩ := cut_rep hr (mkTI P el).isAgg (j.toNat * (mkTI P el).size) (mkTI P el).size h7
        refine ⟨v, ?_, hrep⟩
        simp only [execOp, Instr.index, e1, h3.1, asIntOf, run_underlying (und_array hk), Sem.run_bind, Sem.run_pure, Result.andThen_ok]
        have hcond : (0 ≤ j ∧ j < (m : Int)) := ⟨h1, h4⟩
        simp only [hcond, and_self, if_true, part, Sem.run_bind, run_sizeOf h5, Result.andThen_ok, run_isAgg h6]
        cases hagg : (mkTI P el).isAgg with
        | true =>
          simp only [hagg, if_true] at hv
          simp only [if_true, Sem.run_bind, run_sizeOf h5, Sem.run_pure, Result.andThen_ok]
          rw [hv, extract_toList]
        | false =>
          simp only [hagg] at hv
          simp only [Bool.false_eq_true, if_false] at hv ⊢
          simp only [← Array.getElem?_toList, hv, Sem.run_pure, Result.andThen_ok]
      · exact h.elim
    · exact h.elim

/-! ### slicing -/
def bnd (dflt : Int) : Option AV → Int
  | none => dflt
  | some (.d (.int _ j)) => j
  | _ => -1
def isInt : Option AV → Prop
  | none => True
  | some (.d (.int _ _)) => True
  | _ => False

def aSlice (P : Program) (t : Nat) (x : AV) (lo hi : Option AV) (H : HF) : Out :=
  match x with
  | .d (.sl es) => ⟨isInt lo ∧ isInt hi ∧ (mkTI P t).k.isSl = true ∧ (mkTI P (mkTI P t).k.el).size ≠ 0 ∧ 0 ≤ bnd 0 lo ∧ bnd 0 lo ≤ bnd es.length hi ∧ bnd es.length hi ≤ es.length ∧ (∀ e ∈ es.head?, e.length = (mkTI P (mkTI P t).k.el).size),
      .d (.sl ((es.take (bnd es.length hi).toNat).drop (bnd 0 lo).toNat)), []⟩
  | .arr id off len => ⟨isInt lo ∧ isInt hi ∧ (mkTI P t).k.isSl = true ∧ (mkTI P (mkTI P t).k.el).size ≠ 0 ∧ 0 ≤ bnd 0 lo ∧ bnd 0 lo ≤ bnd len hi ∧ bnd len hi ≤ len ∧ (match H id with | some (.arr _ sz _) => sz = (mkTI P (mkTI P t).k.el).size | _ => False),
      .arr id (off + (bnd 0 lo).toNat) ((bnd len hi).toNat - (bnd 0 lo).toNat), []⟩
  | .d (.str s) => ⟨isInt lo ∧ isInt hi ∧ (mkTI P t).k = .str ∧ 0 ≤ bnd 0 lo ∧ bnd 0 lo ≤ bnd s.length hi ∧ bnd s.length hi ≤ s.length, .d (.str ((s.take (bnd s.length hi).toNat).drop (bnd 0 lo).toNat)), []⟩
  | _ => fail

theorem bnd_rep {w A β H n E a} (hc : CfgF n A β E H a w) (x : Option Operand) (hi : isInt (x.map (evalA E))) (dflt : Int) :
    ∀ y : Operand, x = some y → ∃ k, a.eval y = .int k (bnd dflt (x.map (evalA E))) := by
  rintro y rfl
  have h := hc.eval y
  simp only [Option.map_some] at hi ⊢
  generalize evalA E y = Y at *
  unfold isInt at hi
  split at hi
  · rename_i hh; cases hh
  · rename_i k j hh
    cases hh
    simp only [RepV, RepD] at h
    exact ⟨k, by simp only [bnd]; exact h.1⟩
  · exact hi.elim

theorem run_sliceBound {P : Program} {w : World} {k : IntKind} {i : Int} {y : Nat} {c : BoundsCode} (h0 : 0 ≤ i) (h1 : i ≤ y) : (Instr.sliceBound (.int k i) y c).run P w = .ok i.toNat w := by
  simp [Instr.sliceBound, asIntOf, h0, h1]

theorem run_sliceBounds {P : Program} {n A β E H a} {w : World} (hc : CfgF n A β E H a w) (lo hi : Option Operand) (isS : Bool) (len cap : Nat) (hlen : len ≤ cap)
    (h1 : isInt (lo.map (evalA E))) (h2 : isInt (hi.map (evalA E))) (h3 : 0 ≤ bnd 0 (lo.map (evalA E))) (h4 : bnd 0 (lo.map (evalA E)) ≤ bnd len (hi.map (evalA E))) (h5 : bnd len (hi.map (evalA E)) ≤ len) :
    (Instr.sliceBounds isS len cap (lo.map a.eval) (hi.map a.eval) none).run P w = .ok ((bnd 0 (lo.map (evalA E))).toNat, (bnd len (hi.map (evalA E))).toNat, cap) w := by
  have hh := bnd_rep hc hi h2 len
  have hl := bnd_rep hc lo h1 0
  have hl0 : lo = none → bnd 0 (lo.map (evalA E)) = 0 := by rintro rfl; rfl
  have hh0 : hi = none → bnd len (hi.map (evalA E)) = len := by rintro rfl; rfl
  generalize bnd 0 (lo.map (evalA E)) = l at *
  generalize bnd len (hi.map (evalA E)) = m at *
  have e2 : m ≤ (cap : Int) := by omega
  have e3 : ((m.toNat : Nat) : Int) = m := by omega
  cases hi with
  | none =>
    have hm := hh0 rfl
    subst hm
    cases lo with
    | none =>
      have := hl0 rfl
      subst this
      simp [Instr.sliceBounds]
    | some y =>
      obtain ⟨k, hk⟩ := hl y rfl
      simp [Instr.sliceBounds, hk, run_sliceBound h3 h4]
  | some z =>
    obtain ⟨kz, hz⟩ := hh z rfl
    cases lo with
    | none =>
      have := hl0 rfl
      subst this
      cases isS <;> simp [Instr.sliceBounds, hz, run_sliceBound (show 0 ≤ m by omega) e2]
    | some y =>
      obtain ⟨k, hk⟩ := hl y rfl
      cases isS <;> simp [Instr.sliceBounds, hk, hz, run_sliceBound (show 0 ≤ m by omega) e2, run_sliceBound h3 (show l ≤ (m.toNat : Int) by omega)]

theorem sem_slice {P n d t x lo hi tr p e g E H} (hd : ∀ i, d = some i → i < n) (h : (aSlice P t (evalA E x) (lo.map (evalA E)) (hi.map (evalA E)) H).pre) :
    OSem P n ⟨d, .slice t x lo hi none, tr, p, e, g⟩ E H (aSlice P t (evalA E x) (lo.map (evalA E)) (hi.map (evalA E)) H).res [] :=
  OSem.pure hd fun A β a w hc => by
    have h2 := hc.eval x
    generalize evalA E x = X at *
    unfold aSlice at h ⊢
    have und : ∀ {e}, P.underlying t = some (.slice e) → ∀ v, (Instr.sliceAt t v (lo.map a.eval) (hi.map a.eval) none).run P w = (Instr.slice t v (lo.map a.eval) (hi.map a.eval) none).run P w := fun hu v => by
      simp [Instr.sliceAt, run_underlying hu]
    split at h
    · rename_i es
      obtain ⟨g1, g2, g3, g4, g5, g6, g7, g8⟩ := h
      obtain ⟨el, hel⟩ := TK.sl_of g3
      have hu := und_slice hel
      have hel' : (mkTI P t).k.el = el := by rw [hel]; rfl
      rw [hel'] at g4 g8
      simp only [RepV, RepD] at h2
      obtain ⟨ad, cap, e1, hcap, hLB, h4⟩ := h2
      have hb := run_sliceBounds (P := P) hc lo hi true es.length cap hcap g1 g2 g5 g6 g7
      generalize bnd 0 (lo.map (evalA E)) = l at *
      generalize bnd es.length (hi.map (evalA E)) = m at *
      refine ⟨.slice (if cap = l.toNat then ad else ad.map (·.add (l.toNat * (mkTI P el).size))) (m.toNat - l.toNat) (cap - l.toNat), ?_, ?_⟩
      · simp only [execOp, Option.map_none, und hu, Instr.slice, run_underlying hu, e1, hb, run_sizeOf g4, Sem.run_bind, Sem.run_pure, Result.andThen_ok]
      · have hlen : ((es.take m.toNat).drop l.toNat).length = m.toNat - l.toNat := by simp; omega
        simp only [RepV, RepD]
        refine ⟨_, _, by rw [hlen], by rw [hlen]; omega, trivial, ?_⟩
        by_cases hz : m.toNat - l.toNat = 0
        · exact .inl (List.eq_nil_of_length_eq_zero (by rw [hlen]; exact hz))
        · rcases h4 with h4 | ⟨b, o, s, rfl, hA, hr⟩
          · rw [h4] at g7; simp at g7; omega
          · have hne : cap ≠ l.toNat := by omega
            have hs : s = (mkTI P el).size := by
              cases es with
              | nil => simp at g7; omega
              | cons e0 r =>
                have := g8 e0 (by simp)
                rw [← this]
                exact ((hr.get 0 e0 (by simp)).1).symm
            refine .inr ⟨b, o + l.toNat * s, s, by simp [hne, add_eq, hs], hA, RepEs.drop l.toNat (RepEs.take m.toNat hr) (by simp; omega)⟩
    · rename_i id off len
      obtain ⟨g1, g2, g3, g4, g5, g6, g7, g8⟩ := h
      split at g8
      rotate_left
      · exact g8.elim
      rename_i T sz es ho
      obtain ⟨el, hel⟩ := TK.sl_of g3
      have hu := und_slice hel
      have hel' : (mkTI P t).k.el = el := by rw [hel]; rfl
      rw [hel'] at g4 g8
      simp only [RepV, ho] at h2 ⊢
      obtain ⟨⟨ad, cap, e1, hcap⟩, h3, h4⟩ := h2
      have hb := run_sliceBounds (P := P) hc lo hi true len cap hcap g1 g2 g5 g6 g7
      generalize bnd 0 (lo.map (evalA E)) = l at *
      generalize bnd len (hi.map (evalA E)) = m at *
      refine ⟨.slice (if cap = l.toNat then ad else ad.map (·.add (l.toNat * (mkTI P el).size))) (m.toNat - l.toNat) (cap - l.toNat), ?_, ⟨_, _, rfl, by clear h4; omega⟩, by clear h4; omega, fun hs => ?_⟩
      · simp only [execOp, Option.map_none, und hu, Instr.slice, run_underlying hu, e1, hb, run_sizeOf g4, Sem.run_bind, Sem.run_pure, Result.andThen_ok]
      · have hs' : off + len = es.length := by clear h4; omega
        rcases h4 hs' with ⟨hb0, hoff, a0, e2⟩ | ⟨b, a0, cap0, hb0, e2, ha, hc1, hc2⟩
        · rw [e1] at e2; cases e2
          have : l.toNat = 0 := by omega
          have hm0 : m.toNat = 0 := by omega
          refine .inl ⟨hb0, by omega, ad, by simp [this, hm0]⟩
        · rw [e1] at e2; cases e2
          refine .inr ⟨b, if cap = l.toNat then a0 else a0.add (l.toNat * (mkTI P el).size), cap - l.toNat, hb0, ?_, ?_, ?_, by omega⟩
          · split <;> simp
          · by_cases hcl : cap = l.toNat
            · exact .inl (by omega)
            · rcases ha with ha | ha
              · omega
              · refine .inr ?_
                rw [if_neg hcl, ha, add_eq, ← g8, Nat.add_mul]
          · rw [← hc1]
            congr 1
            omega
    · rename_i s
      obtain ⟨g1, g2, g3, g5, g6, g7⟩ := h
      have hu := und_str g3
      simp only [RepV, RepD] at h2
      have hb := run_sliceBounds (P := P) hc lo hi false s.length s.length (Nat.le_refl _) g1 g2 g5 g6 g7
      generalize bnd 0 (lo.map (evalA E)) = l at *
      generalize bnd s.length (hi.map (evalA E)) = m at *
      refine ⟨.string ((⟨s.toArray⟩ : ByteArray).extract l.toNat m.toNat), ?_, ?_⟩
      · simp [execOp, Instr.sliceAt, run_underlying hu, Instr.slice, h2.1, mk_size, hb]
      · simp only [RepV, RepD]
        refine ⟨?_, trivial⟩
        congr 1
        apply ByteArray.ext
        simp [List.extract_eq_take_drop, List.drop_take]
    · exact h.elim

/-- 's[:0:0]' -/
def aSlice0 (P : Program) (t : Nat) (x : AV) (hi mx : AV) (H : HF) : Out :=
  match hi, mx with
  | .d (.int _ 0), .d (.int _ 0) => ⟨(mkTI P t).k.isSl = true ∧ (mkTI P (mkTI P t).k.el).size ≠ 0 ∧ (match x with | .d (.sl _) => True | .nils => True | .arr id _ _ => isArr (H id) | _ => False), .nils, []⟩
  | _, _ => fail

theorem sem_slice0 {P n d t x hi mx tr p e g E H} (hd : ∀ i, d = some i → i < n) (h : (aSlice0 P t (evalA E x) (evalA E hi) (evalA E mx) H).pre) :
    OSem P n ⟨d, .slice t x none (some hi) (some mx), tr, p, e, g⟩ E H (aSlice0 P t (evalA E x) (evalA E hi) (evalA E mx) H).res [] :=
  OSem.pure hd fun A β a w hc => by
    have h2 := hc.eval x
    have h3 := hc.eval hi
    have h4 := hc.eval mx
    generalize evalA E x = X at *
    generalize evalA E hi = Hi at *
    generalize evalA E mx = Mx at *
    unfold aSlice0 at h ⊢
    split at h
    · simp only [RepV, RepD] at h3 h4
      obtain ⟨g1, g2, g3⟩ := h
      obtain ⟨el, hel⟩ := TK.sl_of g1
      have hu := und_slice hel
      have hel' : (mkTI P t).k.el = el := by rw [hel]; rfl
      rw [hel'] at g2
      have hx : ∃ ad len cap, a.eval x = .slice ad len cap := by
        split at g3
        · simp only [RepV, RepD] at h2; obtain ⟨ad, cap, e1, _⟩ := h2; exact ⟨_, _, _, e1⟩
        · simp only [RepV] at h2; obtain ⟨ad, e1⟩ := h2; exact ⟨_, _, _, e1⟩
        · obtain ⟨T, sz, es, ho⟩ := isArr_of g3
          simp only [RepV, ho] at h2; obtain ⟨⟨ad, cap, e1, _⟩, _⟩ := h2; exact ⟨_, _, _, e1⟩
        · exact g3.elim
      obtain ⟨ad, len, cap, e1⟩ := hx
      refine ⟨_, by simp [execOp, Instr.sliceAt, run_underlying hu, Instr.slice, e1, h3.1, h4.1, Instr.sliceBounds, run_sliceBound (P := P) (w := w) (k := _) (i := 0) (y := cap) (by omega) (by omega), run_sliceBound (P := P) (w := w) (k := _) (i := 0) (y := 0) (by omega) (by omega), run_sizeOf g2]; rfl, ?_⟩
      simp only [RepV]
      exact ⟨_, rfl⟩
    · exact h.elim
end Go.AX
