import Derived.Test.YtmggphnhfegffaaAxE
set_option linter.unusedVariables false
set_option linter.unusedSimpArgs false
namespace Go.AX

theorem sem_fieldAddr {P n d s x f tr p e g E H} (hd : ∀ i, d = some i → i < n) (h : (aFieldAddr P s (evalA E x) f H).pre) :
    OSem P n ⟨d, .fieldAddr s x f, tr, p, e, g⟩ E H (aFieldAddr P s (evalA E x) f H).res [] :=
  OSem.pure hd fun A β a w hc => by
    have h2 := hc.eval x
    generalize evalA E x = X at *
    unfold aFieldAddr at h ⊢
    split at h
    rotate_left
    · exact h.elim
    rename_i fs hk
    split at h
    rotate_left
    · exact h.elim
    rename_i off ft hf
    split at h
    · rename_i cs
      simp only [RepV] at h2
      obtain ⟨b, o, e1, hA, hr⟩ := h2
      refine ⟨_, by simp only [execOp, e1, run_fieldAt hk hf h, Sem.run_bind, Sem.run_pure, Result.andThen_ok]; try rfl, ?_⟩
      simp only [RepV]
      exact ⟨b, o + off, rfl, hA, RepCs.drop off hr⟩
    · rename_i id o
      obtain ⟨cs, ho⟩ := liveBox_of h.2
      simp only [RepV, ho] at h2 ⊢
      obtain ⟨b, hb, e1⟩ := h2
      exact ⟨_, by simp only [execOp, e1, run_fieldAt hk hf h.1, Sem.run_bind, Sem.run_pure, Result.andThen_ok]; try rfl, b, hb, rfl⟩
    · rename_i id i o m
      obtain ⟨T, sz, es, ho, hm⟩ := liveArr_of h.2
      simp only [RepV, ho] at h2 ⊢
      obtain ⟨hle, h2⟩ := h2
      obtain ⟨b, hb, e1⟩ := h2 hm.symm
      exact ⟨_, by simp only [execOp, e1, run_fieldAt hk hf h.1, Sem.run_bind, Sem.run_pure, Result.andThen_ok]; try rfl, hle, fun _ => ⟨b, hb, by rw [Nat.add_assoc]⟩⟩
    · exact h.elim

/-- The cells from off on, as a value of a type. -/
def cut (agg : Bool) (off n : Nat) (cs : List AV) : AV := bif agg then .agg ((cs.drop off).take n) else (cs.drop off).headD .any

def aField (P : Program) (s : Nat) (x : AV) (f : Nat) : Out :=
  match (mkTI P s).k with
  | .struct fs => match fs[f]? with
    | some (off, ft) => match x with
      | .agg cs => ⟨(mkTI P ft).size ≠ 0 ∧ (mkTI P ft).k ≠ .other ∧ off < cs.length, cut (mkTI P ft).isAgg off (mkTI P ft).size cs, []⟩
      | _ => fail
    | none => fail
  | _ => fail

theorem cut_rep {w A β H} {cs : List AV} {vs : List Value} (h : RepVs w A β H cs vs) (agg : Bool) (off n : Nat) (hoff : off < cs.length) :
    ∃ v, (if agg then v = .agg ((vs.drop off).take n).toArray else vs[off]? = some v) ∧ RepV w A β H (cut agg off n cs) v := by
  cases agg with
  | true =>
    exact ⟨_, rfl, by simp only [cut, cond_true, RepV]; exact ⟨_, rfl, by simpa using (h.drop off).take n⟩⟩
  | false =>
    obtain ⟨v, h1, h2⟩ := h.get off cs[off] (by simp [hoff])
    refine ⟨v, by simpa using h1, ?_⟩
    simp only [cut, cond_false]
    rw [List.headD_eq_head?_getD, List.head?_drop]
    simpa [hoff] using h2

theorem extract_toList (xs : Array Value) (i j : Nat) : xs.extract i (i + j) = ((xs.toList.drop i).take j).toArray := by
  apply Array.ext'
  simp

theorem sem_field {P n d s x f tr p e g E H} (hd : ∀ i, d = some i → i < n) (h : (aField P s (evalA E x) f).pre) :
    OSem P n ⟨d, .field s x f, tr, p, e, g⟩ E H (aField P s (evalA E x) f).res [] :=
  OSem.pure hd fun A β a w hc => by
    have h2 := hc.eval x
    generalize evalA E x = X at *
    unfold aField at h ⊢
    split at h
    rotate_left
    · exact h.elim
    rename_i fs hk
    split at h
    rotate_left
    · exact h.elim
    rename_i off ft hf
    split at h
    rotate_left
    · exact h.elim
    rename_i cs
    simp only [RepV] at h2
    obtain ⟨vs, e1, hr⟩ := h2
    obtain ⟨v, hv, hrep⟩ := cut_rep hr (mkTI P ft).isAgg off (mkTI P ft).size h.2.2
    refine ⟨v, ?_, hrep⟩
    obtain ⟨gs, hu, rfl⟩ := und_struct hk
    simp only [List.getElem?_map, Option.map_eq_some_iff] at hf
    obtain ⟨fl, hf, he⟩ := hf
    cases he
    simp only [execOp, Instr.field, run_underlying hu, ← Array.getElem?_toList, hf, e1, asAgg, part, run_isAgg h.2.1, Sem.run_bind, Sem.run_pure, Result.andThen_ok]
    cases hagg : (mkTI P fl.type).isAgg with
    | true =>
      simp only [hagg, if_true] at hv
      simp only [if_true, Sem.run_bind, run_sizeOf h.1, Sem.run_pure, Result.andThen_ok]
      rw [hv, extract_toList]
    | false =>
      simp only [hagg] at hv
      simp only [Bool.false_eq_true, if_false] at hv ⊢
      simp only [← Array.getElem?_toList, hv, Sem.run_pure, Result.andThen_ok]

/-! ### slices: len, index, slice -/
def TK.isSl : TK → Bool | .slice _ => true | _ => false
theorem TK.sl_of {k : TK} (h : k.isSl = true) : ∃ e, k = .slice e := by cases k <;> simp [TK.isSl] at h; exact ⟨_, rfl⟩
def TK.el : TK → Nat | .slice e => e | _ => 0

def isArr : Option AObj → Prop
  | some (.arr _ _ _) => True
  | _ => False
theorem isArr_of {o : Option AObj} (h : isArr o) : ∃ T sz es, o = some (.arr T sz es) := by
  unfold isArr at h; split at h
  · exact ⟨_, _, _, rfl⟩
  · exact h.elim

def aLen (P : Program) (t : Nat) (x : AV) (H : HF) : Out :=
  match x with
  | .d (.sl es) => ⟨(mkTI P t).k.isSl = true, .d (.int .i64 es.length), []⟩
  | .nils => ⟨(mkTI P t).k.isSl = true, .d (.int .i64 0), []⟩
  | .arr id _ len => ⟨(mkTI P t).k.isSl = true ∧ isArr (H id), .d (.int .i64 len), []⟩
  | .d (.str s) => ⟨(mkTI P t).k = .str, .d (.int .i64 s.length), []⟩
  | _ => fail

theorem i64_min : IntKind.i64.min = -9223372036854775808 := by decide
theorem i64_max : IntKind.i64.max = 9223372036854775807 := by decide

theorem fits_len {m : Nat} : fits .i64 (m : Int) := trivial

theorem run_len_sl {P : Program} {w : World} {t : Nat} (h : (mkTI P t).k.isSl = true) (ty : Nat) (a : Option Addr) (m c : Nat) :
    (Builtin.len_ #[t] ty #[.slice a m c]).run P w = .ok (.int .i64 m) w := by
  obtain ⟨e, he⟩ := TK.sl_of h
  simp [Builtin.len_, run_underlying (und_slice he), goInt]

theorem run_builtin_op {P : Program} {w w' : World} {ρ : Operand → Value} {d b args ts tr p e g} {v : Value} (s : Sem Value)
    (hb : ∀ c, builtin b ts tr c (args.map ρ) = (do pure (.value (← s)))) (h : s.run P w = .ok v w') :
    (execOp ρ ⟨d, .call { callee := .builtin b, args := args, argTypes := ts }, tr, p, e, g⟩).run P w = .ok (.value v) w' := by
  simp only [execOp, resolve, invoke, Sem.run_bind, Sem.run_pure, Result.andThen_ok, hb, h]

def s_len (s : List UInt8) : Int := s.length

theorem sem_len {P n d x t tr p e g E H} (hd : ∀ i, d = some i → i < n) (h : (aLen P t (evalA E x) H).pre) :
    OSem P n ⟨d, .call { callee := .builtin .len, args := #[x], argTypes := #[t] }, tr, p, e, g⟩ E H (aLen P t (evalA E x) H).res [] :=
  OSem.pure hd fun A β a w hc => by
    have h2 := hc.eval x
    generalize evalA E x = X at *
    have key : ∀ (m : Int), (Builtin.len_ #[t] tr #[a.eval x]).run P w = .ok (.int .i64 m) w → (execOp a.eval ⟨d, .call { callee := .builtin .len, args := #[x], argTypes := #[t] }, tr, p, e, g⟩).run P w = .ok (.value (.int .i64 m)) w := fun m hm =>
      run_builtin_op _ (fun _ => by simp [builtin]) hm
    unfold aLen at h ⊢
    split at h
    · simp only [RepV, RepD] at h2
      obtain ⟨ad, cap, e1, _, h3, _⟩ := h2
      exact ⟨_, key _ (by rw [e1]; exact run_len_sl h tr _ _ _), by simp only [RepV, RepD, true_and]; trivial⟩
    · simp only [RepV] at h2
      obtain ⟨ad, e1⟩ := h2
      exact ⟨_, key _ (by rw [e1]; exact run_len_sl h tr _ _ _), by simp only [RepV, RepD]; exact ⟨rfl, trivial⟩⟩
    · obtain ⟨hsl, hl⟩ := h
      obtain ⟨T, sz, es, ho⟩ := isArr_of hl
      have hle := (hc.heap.arr _ _ _ _ ho).1
      simp only [RepV, ho] at h2
      obtain ⟨⟨ad, cap, e1, _⟩, h3, _⟩ := h2
      exact ⟨_, key _ (by rw [e1]; exact run_len_sl hsl tr _ _ _), by simp only [RepV, RepD, true_and]; trivial⟩
    · simp only [RepV, RepD] at h2
      exact ⟨_, key (s_len ‹List UInt8›) (by rw [h2.1]; simp [s_len, Builtin.len_, run_underlying (und_str h), goInt, mk_size]), by simp only [RepV, RepD, s_len, true_and]; trivial⟩
    · exact h.elim

/-- The address of an element. -/
def aIndexAddr (P : Program) (t : Nat) (x i : AV) (H : HF) : Out :=
  match x, i with
  | .d (.sl es), .d (.int _ j) => ⟨(mkTI P t).k.isSl = true ∧ (mkTI P (mkTI P t).k.el).size ≠ 0 ∧ 0 ≤ j ∧ j < es.length ∧ (es.getD j.toNat []).length = (mkTI P (mkTI P t).k.el).size, .ref (es.getD j.toNat []), []⟩
  | .arr id off len, .d (.int _ j) => ⟨(mkTI P t).k.isSl = true ∧ 0 ≤ j ∧ j < len ∧ (match H id with | some (.arr _ sz es) => off + len = es.length ∧ sz = (mkTI P (mkTI P t).k.el).size ∧ sz ≠ 0 | _ => False), .elt id (off + j.toNat) 0 (off + len), []⟩
  | _, _ => fail

theorem run_indexAt {P : Program} {w : World} {t : Nat} (h : (mkTI P t).k.isSl = true) (hs : (mkTI P (mkTI P t).k.el).size ≠ 0) (b o m c : Nat) (k : IntKind) (j : Int) (h0 : 0 ≤ j) (h1 : j < m) :
    (Instr.indexAt t (.slice (some ⟨b, o, none⟩) m c) (.int k j)).run P w = .ok (.pointer (some ⟨b, o + j.toNat * (mkTI P (mkTI P t).k.el).size, none⟩)) w := by
  obtain ⟨e, he⟩ := TK.sl_of h
  have hel : (mkTI P t).k.el = e := by rw [he]; rfl
  rw [hel] at hs ⊢
  simp [Instr.indexAt, asIntOf, run_underlying (und_slice he), h0, h1, run_sizeOf hs, add_eq]

theorem sem_indexAddr {P n d t x i tr p e g E H} (hd : ∀ i, d = some i → i < n) (h : (aIndexAddr P t (evalA E x) (evalA E i) H).pre) :
    OSem P n ⟨d, .indexAddr t x i, tr, p, e, g⟩ E H (aIndexAddr P t (evalA E x) (evalA E i) H).res [] :=
  OSem.pure hd fun A β a w hc => by
    have h2 := hc.eval x
    have h3 := hc.eval i
    generalize evalA E x = X at *
    generalize evalA E i = I at *
    unfold aIndexAddr at h ⊢
    split at h
    · rename_i es k j
      simp only [RepV, RepD] at h2 h3
      obtain ⟨ad, cap, e1, _, _, h4⟩ := h2
      obtain ⟨hsl, hsz, h0, h1, hlen⟩ := h
      have hj : j.toNat < es.length := by omega
      have hget : es[j.toNat]? = some (es.getD j.toNat []) := by simp [hj]
      rcases h4 with h4 | ⟨b, o, s, rfl, hA, hr⟩
      · rw [h4] at hj; simp at hj
      obtain ⟨h5, h6⟩ := hr.get j.toNat _ hget
      refine ⟨_, by simp only [execOp, e1, h3.1, run_indexAt hsl hsz b o es.length cap k j h0 h1, Sem.run_bind, Sem.run_pure, Result.andThen_ok]; try rfl, ?_⟩
      simp only [RepV]
      exact ⟨b, _, rfl, hA, by rw [← hlen, h5]; exact h6⟩
    · rename_i id off len k j
      obtain ⟨hsl, h0, h1, hm⟩ := h
      split at hm
      · rename_i T sz es ho
        obtain ⟨hl, hsz, hsz0⟩ := hm
        simp only [RepV, RepD, ho] at h2 h3 ⊢
        obtain ⟨⟨ad', cap', e2, hc'⟩, h5, h6⟩ := h2
        rcases h6 hl with ⟨_, hoff, ad, e1⟩ | ⟨b, ad, cap, hb, e1, ha, hcap, hcl⟩
        · rw [e1] at e2; cases e2; omega
        · have hcap0 : cap ≠ 0 := by
            rintro rfl
            rw [e1] at e2; cases e2; omega
          rcases ha with ha | ha
          · exact absurd ha hcap0
          subst ha
          refine ⟨_, by simp only [execOp, e1, h3.1, run_indexAt hsl (by rw [← hsz]; exact hsz0) b (off * sz) len cap k j h0 (by omega), Sem.run_bind, Sem.run_pure, Result.andThen_ok]; try rfl, by omega, fun _ => ⟨b, hb, ?_⟩⟩
          rw [← hsz]
          simp [Nat.add_mul]
      · exact hm.elim
    · exact h.elim
end Go.AX
