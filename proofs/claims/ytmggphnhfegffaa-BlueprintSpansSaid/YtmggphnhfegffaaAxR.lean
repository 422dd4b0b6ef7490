import Derived.Test.YtmggphnhfegffaaAxQ
set_option linter.unusedVariables false
set_option linter.unusedSimpArgs false
namespace Go.AX

/-- The log of a region that draws: for each operation what it touches, what it writes, what it makes. -/
structure Ent where
  all : Bool
  t : List Nat
  m : List Nat
  w : List Nat
  n : List Nat
  deriving Inhabited
abbrev Log := Option (List Ent)
def addLog (lg : Log) (all : Bool) (t m w n : List Nat) : Log := lg.map fun l => ⟨all, t, m, w, n⟩ :: l

def newIds (H : HF) : HL → List Nat
  | [] => []
  | (i, some _) :: r => (match H i with | none => [i] | some _ => []) ++ newIds H r
  | (_, none) :: r => newIds H r

/-- A step that holds wherever the operands and the objects that it looks at are the same. -/
def LSem (P : Program) (n : Nat) (o : Oper) (E : EF) (H : HF) (r : AV) (u : HL) (all : Bool) (T : List Nat) : Prop :=
  ∀ E' H', (∀ x ∈ o.op.operands, evalA E' x = evalA E x) → (all = true → H' = H) → (∀ i ∈ T, H' i = H i) → (∀ i x, (i, some x) ∈ u → H' i = none → Fresh i E' H') → OSem P n o E' H' r u

def gslot (full : List Oper) (j : Nat) : Option Nat := (full[j]?).bind (·.dst)

def St.step (s : St) (d : Option Nat) (r : AV) (u : HL) : St := ⟨putL s.e d r, u ++ s.h⟩

/-- One operation. -/
def VOp (P : Program) (n nb : Nat) (o : Oper) (s : St) (lg : Log) (K : Log → St → Prop) : Prop :=
  match o.op with
  | .call { callee := .value _, .. } =>
    ∃ r u all T, LSem P n o (eget s.e) (hget s.h) r u all T ∧ dstOk n o.dst ∧ freshU nb s u ∧
      K (addLog lg all (T ++ u.map (·.1)) (r.ids ++ updIds u) (u.map (·.1)) (newIds (hget s.h) u)) (s.step o.dst r u)
  | _ =>
    (outOf P nb o (eget s.e) (hget s.h)).1.pre ∧ dstOk n o.dst ∧ freshU nb s (outOf P nb o (eget s.e) (hget s.h)).1.upd ∧
      K (addLog lg false ((outOf P nb o (eget s.e) (hget s.h)).2 ++ (outOf P nb o (eget s.e) (hget s.h)).1.upd.map (·.1)) ((outOf P nb o (eget s.e) (hget s.h)).1.res.ids ++ updIds (outOf P nb o (eget s.e) (hget s.h)).1.upd)
        ((outOf P nb o (eget s.e) (hget s.h)).1.upd.map (·.1)) (newIds (hget s.h) (outOf P nb o (eget s.e) (hget s.h)).1.upd)) (s.step o.dst (outOf P nb o (eget s.e) (hget s.h)).1.res (outOf P nb o (eget s.e) (hget s.h)).1.upd)

/-- A guard that is asked. -/
def VG (x : AV) (want : Bool) (go skip : Prop) : Prop :=
  match x with
  | .d (.bool g) => (g = want → go) ∧ (g ≠ want → skip)
  | .tup [] => skip
  | _ => False

def VOps (P : Program) (n nb : Nat) (full : List Oper) : List Oper → St → Log → (Log → St → Prop) → Prop
  | [], s, lg, K => K lg s
  | o :: r, s, lg, K =>
    match o.guard with
    | none => VOp P n nb o s lg fun lg' s' => VOps P n nb full r s' lg' K
    | some (j, want) => match gslot full j with
      | none => False
      | some t => VG (eget s.e t) want (VOp P n nb o s lg fun lg' s' => VOps P n nb full r s' lg' K)
          (dstOk n o.dst ∧ VOps P n nb full r (s.step o.dst (.tup []) []) (addLog lg false [] [] [] []) K)

structure Base where
  w : World
  A : Nat → Prop
  β : BF
  H : HF
def Base.ok (B : Base) (nb : Nat) : Prop := ∀ i, B.H i ≠ none → i < nb

def Cf (n : Nat) (B : Base) (E : EF) (H : HF) (a : Act) (w : World) : Prop :=
  ∃ A β, CfgF n A β E H a w ∧ Trans B.w B.A B.β B.H w A β H

theorem wp_mono2 {P : Program} {o : Oper} {a : Act} {w : World} {K K' : Act → World → Prop} {Q Q' : Exit → Act → World → Prop} (h : ∀ a w, K a w → K' a w) (hq : ∀ e a w, Q e a w → Q' e a w)
    (hh : o.wp P a w K Q) : o.wp P a w K' Q' := by
  unfold Oper.wp at *
  generalize (execOp a.eval o).run P w = r at *
  cases r with
  | ok n w' =>
    cases n <;> simp only [Oper.upon] at hh ⊢ <;>
      first
        | exact h _ _ hh
        | exact Calls.mono hh (fun e w'' he => by cases e <;> first | exact h _ _ he | exact hq _ _ _ he | (obtain ⟨x, y, hz⟩ := he; exact ⟨x, y, hq _ _ _ hz⟩))
        | exact Rows.mono hh (fun _ _ he => h _ _ he)
  | halt x w' => cases x <;> simp only [Oper.upon] at hh ⊢ <;> first | exact hq _ _ _ hh | exact hh

theorem LSem.of_out {P n nb} {o : Oper} {E H} (hd : dstOk n o.dst) (hpre : (outOf P nb o E H).1.pre) : LSem P n o E H (outOf P nb o E H).1.res (outOf P nb o E H).1.upd false (outOf P nb o E H).2 := by
  intro E' H' he _ hT hf
  have e := outOf_congr he hT
  have := outOf_sound (P := P) (n := n) (nb := nb) (o := o) (E := E') (H := H') (fun i hi => by rw [hi] at hd; exact hd) (by rw [e]; exact hpre) (by rw [e]; exact hf)
  rw [e] at this
  exact this

/-- A step's facts, of whatever kind the operation is. -/
theorem VOp.elim {P n nb} {o : Oper} {s : St} {lg : Log} {K : Log → St → Prop} (h : VOp P n nb o s lg K) :
    ∃ r u all T, LSem P n o (eget s.e) (hget s.h) r u all T ∧ dstOk n o.dst ∧ freshU nb s u ∧
      K (addLog lg all (T ++ u.map (·.1)) (r.ids ++ updIds u) (u.map (·.1)) (newIds (hget s.h) u)) (s.step o.dst r u) := by
  unfold VOp at h
  split at h
  · exact h
  · obtain ⟨h1, h2, h3, h4⟩ := h
    exact ⟨_, _, false, _, LSem.of_out h2 h1, h2, h3, h4⟩

theorem freshU_fresh {nb : Nat} {s : St} : ∀ {u : HL}, freshU nb s u → ∀ i x, (i, some x) ∈ u → hget s.h i = none → nb ≤ i ∧ Fresh i (eget s.e) (hget s.h)
  | [], _, i, x, hm, _ => by simp at hm
  | (j, some y) :: r, h, i, x, hm, hn => by
    rcases List.mem_cons.1 hm with e | hm
    · cases e
      rcases h.1 with h1 | ⟨h1, h2, h3⟩
      · exact absurd hn h1
      · exact ⟨h1, fresh_of h2 h3⟩
    · exact freshU_fresh h.2 i x hm hn
  | (j, none) :: r, h, i, x, hm, hn => by
    rcases List.mem_cons.1 hm with e | hm
    · cases e
    · exact freshU_fresh (by simpa only [freshU] using h) i x hm hn

theorem updF_new {H : HF} {u : HL} {i : Nat} (h1 : H i = none) (h2 : updF H u i ≠ none) : ∃ x, (i, some x) ∈ u := by
  induction u with
  | nil => simp only [updF] at h2; exact absurd h1 h2
  | cons y r ih =>
    obtain ⟨j, o⟩ := y
    simp only [updF] at h2
    by_cases e : i = j
    · subst e
      simp only [if_true] at h2
      cases o with
      | none => exact absurd rfl h2
      | some x => exact ⟨x, by simp⟩
    · simp only [e, if_false] at h2
      obtain ⟨x, hx⟩ := ih h2
      exact ⟨x, List.mem_cons_of_mem _ hx⟩

theorem step_e (s : St) (d : Option Nat) (r : AV) (u : HL) : eget (s.step d r u).e = putE (eget s.e) d r := eget_putL _ _ _
theorem step_h (s : St) (d : Option Nat) (r : AV) (u : HL) : hget (s.step d r u).h = updF (hget s.h) u := hget_append _ _

/-- A step on configurations over a base. -/
theorem OSem.on {P n nb o E H r u} (h : OSem P n o E H r u) (hn : ∀ i, H i = none → updF H u i ≠ none → nb ≤ i) {B : Base} (hB : B.ok nb) {a w} (hc : Cf n B E H a w)
    {K : Act → World → Prop} {Q : Exit → Act → World → Prop} (hK : ∀ a' w', Cf n B (putE E o.dst r) (updF H u) a' w' → K a' w') : o.wp P a w K Q := by
  obtain ⟨A, β, hc, ht⟩ := hc
  refine wp_mono2 (fun a' w' ⟨A', β', h1, h2⟩ => hK a' w' ⟨A', β', h1, ht.comp h2 fun i h3 h4 => ?_⟩) (fun _ _ _ h => h.elim) (h A β a w hc)
  cases h5 : updF H u i with
  | none => rfl
  | some o' => have := hn i h4 (by simp [h5]); have := hB i h3; omega

theorem guard_val {n A β E H a w} (h : CfgF n A β E H a w) {full : List Oper} {j t : Nat} {g : Bool} (hs : gslot full j = some t) (hg : E t = .d (.bool g)) : yielded full.toArray a.tmps j = some g := by
  have h1 := h.env t
  rw [hg] at h1
  simp only [RepV, RepD] at h1
  have h2 : a.tmps[t]? = some (.bool g) := by
    rw [Array.getD_eq_getD_getElem?] at h1
    cases hx : a.tmps[t]? with
    | none => rw [hx] at h1; simp [undef] at h1
    | some v => rw [hx] at h1; simp at h1; rw [h1]
  unfold gslot at hs
  unfold yielded
  rw [List.getElem?_toArray, hs]
  simp [h2]

theorem guard_undef {n A β E H a w} (h : CfgF n A β E H a w) {full : List Oper} {j t : Nat} (hs : gslot full j = some t) (hg : E t = .tup []) : yielded full.toArray a.tmps j = none := by
  have h1 := h.env t
  rw [hg] at h1
  simp only [RepV, RepVs] at h1
  obtain ⟨vs, h1, h0⟩ := h1
  rw [Array.getD_eq_getD_getElem?] at h1
  unfold gslot at hs
  unfold yielded
  rw [List.getElem?_toArray, hs]
  cases hx : a.tmps[t]? with
  | none => simp [hx]
  | some v => rw [hx] at h1; simp at h1; simp [hx, h1]

/-! ### a region in the text's order -/
theorem VOps_run {P n nb} (full : List Oper) {B : Base} (hB : B.ok nb) {K : Log → St → Prop} : ∀ (l : List Oper) (k : Nat) (s : St) (lg : Log) (a : Act) (w : World), full.drop k = l → VOps P n nb full l s lg K → Cf n B (eget s.e) (hget s.h) a w →
    wpOps P full.toArray (fun e a' w' => e = .normal ∧ ∃ lg' s', K lg' s' ∧ Cf n B (eget s'.e) (hget s'.h) a' w') (List.range' k l.length) a w
  | [], k, s, lg, a, w, _, h, hc => by
    simp only [VOps] at h
    simp only [List.length_nil, List.range'_zero, wpOps]
    exact ⟨by trivial, lg, s, h, hc⟩
  | o :: r, k, s, lg, a, w, hd, h, hc => by
    have hk : full[k]? = some o := by
      have := congrArg (·[0]?) hd
      simpa using this
    have hd' : full.drop (k + 1) = r := by
      have := congrArg (List.drop 1) hd
      simpa [List.drop_drop, Nat.add_comm] using this
    simp only [List.length_cons, List.range'_succ, wpOps, List.getElem?_toArray, hk]
    have exec : (VOp P n nb o s lg fun lg' s' => VOps P n nb full r s' lg' K) → o.wp P a w (wpOps P full.toArray (fun e a' w' => e = .normal ∧ ∃ lg' s', K lg' s' ∧ Cf n B (eget s'.e) (hget s'.h) a' w') (List.range' (k + 1) r.length)) (fun e a' w' => e = .normal ∧ ∃ lg' s', K lg' s' ∧ Cf n B (eget s'.e) (hget s'.h) a' w') := by
      intro hv
      obtain ⟨x, u, all, T, h1, h2, h3, h4⟩ := hv.elim
      have h5 : OSem P n o (eget s.e) (hget s.h) x u := h1 _ _ (fun _ _ => rfl) (fun _ => rfl) (fun _ _ => rfl) fun i y hm hn => (freshU_fresh h3 i y hm hn).2
      refine h5.on (nb := nb) (fun i hi hu => ?_) hB hc fun a' w' hc' => ?_
      · obtain ⟨y, hy⟩ := updF_new hi hu
        exact (freshU_fresh h3 i y hy hi).1
      · rw [← step_e, ← step_h] at hc'
        exact VOps_run full hB r (k + 1) _ _ a' w' hd' h4 hc'
    simp only [VOps] at h
    cases hg : o.guard with
    | none =>
      simp only [hg] at h
      have hw : Region.wanted o (yielded full.toArray a.tmps) = true := by simp [Region.wanted, hg]
      simp only [hw, if_true]
      exact .inl (exec h)
    | some jw =>
      obtain ⟨j, want⟩ := jw
      simp only [hg] at h
      cases hs : gslot full j with
      | none => simp only [hs] at h
      | some t =>
        simp only [hs] at h
        unfold VG at h
        split at h
        · rename_i g hgt
          obtain ⟨A, β, hcf, ht⟩ := hc
          have hy := guard_val hcf hs hgt
          have hw : Region.wanted o (yielded full.toArray a.tmps) = (some g == some want) := by simp only [Region.wanted, hg, hy]
          by_cases hgw : g = want
          · subst hgw
            rw [hw]
            simp only [beq_self_eq_true, if_true]
            exact .inl (exec (h.1 rfl))
          · rw [hw]
            have hne : (some g == some want) = false := by simpa using hgw
            rw [hne]
            simp only [Bool.false_eq_true, if_false]
            obtain ⟨h1, h2⟩ := h.2 hgw
            refine VOps_run full hB r (k + 1) _ _ _ w hd' h2 ⟨A, β, ?_, ht⟩
            rw [step_e, step_h]
            exact hcf.put (fun i hi => by rw [hi] at h1; exact h1) (by simp only [RepV]; exact ⟨#[], rfl, by simp [RepVs]⟩)
        · rename_i hgt
          obtain ⟨A, β, hcf, ht⟩ := hc
          have hy := guard_undef hcf hs hgt
          have hw : Region.wanted o (yielded full.toArray a.tmps) = false := by simp only [Region.wanted, hg, hy]; rfl
          rw [hw]
          simp only [Bool.false_eq_true, if_false]
          obtain ⟨h1, h2⟩ := h
          refine VOps_run full hB r (k + 1) _ _ _ w hd' h2 ⟨A, β, ?_, ht⟩
          rw [step_e, step_h]
          exact hcf.put (fun i hi => by rw [hi] at h1; exact h1) (by simp only [RepV]; exact ⟨#[], rfl, by simp [RepVs]⟩)
        · exact h.elim
end Go.AX
