import Derived.Test.YtmggphnhfegffaaAxR
set_option linter.unusedVariables false
set_option linter.unusedSimpArgs false
namespace Go.AX

/-! ### a region that draws its order: the text's order, and one check -/
structure Rec where
  skip : Bool
  r : AV
  u : HL
  all : Bool
  t : List Nat
  deriving Inhabited

def entOf (H : HF) (ρ : Rec) : Ent := ⟨ρ.all, ρ.t ++ ρ.u.map (·.1), ρ.r.ids ++ updIds ρ.u, ρ.u.map (·.1), newIds H ρ.u⟩

def RecOk (P : Program) (n nb : Nat) (full : List Oper) (o : Oper) (E : EF) (H : HF) (ρ : Rec) : Prop :=
  dstOk n o.dst ∧
  (∀ i x, (i, some x) ∈ ρ.u → H i = none → nb ≤ i) ∧
  if ρ.skip then ρ.r = .tup [] ∧ ρ.u = [] ∧ ∃ j want t, o.guard = some (j, want) ∧ gslot full j = some t ∧ (E t = .tup [] ∨ ∃ g, E t = .d (.bool g) ∧ g ≠ want)
  else LSem P n o E H ρ.r ρ.u ρ.all ρ.t ∧ (o.guard = none ∨ ∃ j want t, o.guard = some (j, want) ∧ gslot full j = some t ∧ E t = .d (.bool want))

/-- The states of the text's order, with some operations left out. -/
def stp (s : St) (full : List Oper) (ρ : Nat → Rec) (done : Nat → Bool) : Nat → EF × HF
  | 0 => (eget s.e, hget s.h)
  | m + 1 => if done m then (putE (stp s full ρ done m).1 ((full[m]?).bind (·.dst)) (ρ m).r, updF (stp s full ρ done m).2 (ρ m).u) else stp s full ρ done m

theorem VOps_recs {P n nb} {full : List Oper} {K : Log → St → Prop} : ∀ (l : List Oper) (k : Nat) (s s0 : St) (lg : List Ent) (ρ0 : Nat → Rec), full.drop k = l → VOps P n nb full l s (some lg) K →
    eget s.e = (stp s0 full ρ0 (fun _ => true) k).1 → hget s.h = (stp s0 full ρ0 (fun _ => true) k).2 →
    ∃ (ρ : Nat → Rec) (sN : St) (es : List Ent), (∀ m, m < k → ρ m = ρ0 m) ∧ K (some (es.reverse ++ lg)) sN ∧ es.length = l.length ∧
      (∀ i o, l[i]? = some o → RecOk P n nb full o (stp s0 full ρ (fun _ => true) (k + i)).1 (stp s0 full ρ (fun _ => true) (k + i)).2 (ρ (k + i)) ∧ es[i]? = some (entOf (stp s0 full ρ (fun _ => true) (k + i)).2 (ρ (k + i)))) ∧
      eget sN.e = (stp s0 full ρ (fun _ => true) (k + l.length)).1 ∧ hget sN.h = (stp s0 full ρ (fun _ => true) (k + l.length)).2
  | [], k, s, s0, lg, ρ0, hd, h, he, hh => by
    simp only [VOps] at h
    exact ⟨ρ0, s, [], fun _ _ => rfl, by simpa using h, rfl, fun i o hi => by simp at hi, by simpa using he, by simpa using hh⟩
  | o :: l, k, s, s0, lg, ρ0, hd, h, he, hh => by
    have hk : full[k]? = some o := by
      have := congrArg (·[0]?) hd
      simpa using this
    have hd' : full.drop (k + 1) = l := by
      have := congrArg (List.drop 1) hd
      simpa [List.drop_drop, Nat.add_comm] using this
    -- one step with the record ρk
    have key : ∀ (ρk : Rec) (lg' : List Ent), RecOk P n nb full o (eget s.e) (hget s.h) ρk → lg' = entOf (hget s.h) ρk :: lg → VOps P n nb full l (s.step o.dst ρk.r ρk.u) (some lg') K →
        ∃ (ρ : Nat → Rec) (sN : St) (es : List Ent), (∀ m, m < k → ρ m = ρ0 m) ∧ K (some (es.reverse ++ lg)) sN ∧ es.length = (o :: l).length ∧
          (∀ i o', (o :: l)[i]? = some o' → RecOk P n nb full o' (stp s0 full ρ (fun _ => true) (k + i)).1 (stp s0 full ρ (fun _ => true) (k + i)).2 (ρ (k + i)) ∧ es[i]? = some (entOf (stp s0 full ρ (fun _ => true) (k + i)).2 (ρ (k + i)))) ∧
          eget sN.e = (stp s0 full ρ (fun _ => true) (k + (o :: l).length)).1 ∧ hget sN.h = (stp s0 full ρ (fun _ => true) (k + (o :: l).length)).2 := by
      intro ρk lg' hok hlg hv
      subst hlg
      have same : ∀ (ρ : Nat → Rec), (∀ m, m < k → ρ m = ρ0 m) → ∀ m, m ≤ k → stp s0 full ρ (fun _ => true) m = stp s0 full ρ0 (fun _ => true) m := by
        intro ρ hρ m
        induction m with
        | zero => intro _; rfl
        | succ m ih => intro hm; simp only [stp, ih (by omega), hρ m (by omega)]
      have h1 : ∀ m, m < k → (fun m => if m = k then ρk else ρ0 m) m = ρ0 m := fun m hm => by simp only; rw [if_neg (by omega)]
      obtain ⟨ρ, sN, es, g1, g2, g3, g4, g5, g6⟩ := VOps_recs l (k + 1) (s.step o.dst ρk.r ρk.u) s0 (entOf (hget s.h) ρk :: lg) (fun m => if m = k then ρk else ρ0 m) hd' hv
        (by simp only [step_e, stp, if_true, same _ h1 k (Nat.le_refl _), ← he, hk, Option.bind_some]) (by simp only [step_h, stp, if_true, same _ h1 k (Nat.le_refl _), ← hh])
      have hρk : ρ k = ρk := by rw [g1 k (by omega)]; simp
      have hlt : ∀ m, m < k → ρ m = ρ0 m := fun m hm => by rw [g1 m (by omega)]; rw [if_neg (by omega)]
      refine ⟨ρ, sN, entOf (hget s.h) ρk :: es, hlt, by simpa using g2, by simp [g3], fun i o' hi => ?_, by rw [g5, List.length_cons]; congr 2; omega, by rw [g6, List.length_cons]; congr 2; omega⟩
      cases i with
      | zero =>
        simp only [List.getElem?_cons_zero, Option.some.injEq] at hi
        subst hi
        simp only [Nat.add_zero, hρk, same ρ hlt k (Nat.le_refl _), ← he, ← hh, List.getElem?_cons_zero]
        exact ⟨hok, trivial⟩
      | succ i =>
        have := g4 i o' (by simpa using hi)
        rw [show k + 1 + i = k + (i + 1) by omega] at this
        simpa using this
    have exec : (VOp P n nb o s (some lg) fun lg' s' => VOps P n nb full l s' lg' K) → (o.guard = none ∨ ∃ j want t, o.guard = some (j, want) ∧ gslot full j = some t ∧ eget s.e t = .d (.bool want)) →
        ∃ (ρ : Nat → Rec) (sN : St) (es : List Ent), (∀ m, m < k → ρ m = ρ0 m) ∧ K (some (es.reverse ++ lg)) sN ∧ es.length = (o :: l).length ∧
          (∀ i o', (o :: l)[i]? = some o' → RecOk P n nb full o' (stp s0 full ρ (fun _ => true) (k + i)).1 (stp s0 full ρ (fun _ => true) (k + i)).2 (ρ (k + i)) ∧ es[i]? = some (entOf (stp s0 full ρ (fun _ => true) (k + i)).2 (ρ (k + i)))) ∧
          eget sN.e = (stp s0 full ρ (fun _ => true) (k + (o :: l).length)).1 ∧ hget sN.h = (stp s0 full ρ (fun _ => true) (k + (o :: l).length)).2 := by
      intro hv hg
      obtain ⟨x, u, all, T, h1, h2, h3, h4⟩ := hv.elim
      refine key ⟨false, x, u, all, T⟩ _ ⟨h2, fun i y hm hn => (freshU_fresh h3 i y hm hn).1, ?_⟩ rfl h4
      simp only [Bool.false_eq_true, if_false]
      exact ⟨h1, hg⟩
    simp only [VOps] at h
    cases hg : o.guard with
    | none =>
      simp only [hg] at h
      exact exec h (.inl hg)
    | some jw =>
      obtain ⟨j, want⟩ := jw
      simp only [hg] at h
      cases hs : gslot full j with
      | none => simp only [hs] at h
      | some t =>
        simp only [hs] at h
        unfold VG at h
        split at h
        · rename_i g hgt
          by_cases hgw : g = want
          · subst hgw
            exact exec (h.1 rfl) (.inr ⟨j, g, t, hg, hs, hgt⟩)
          · obtain ⟨h1, h2⟩ := h.2 hgw
            refine key ⟨true, .tup [], [], false, []⟩ _ ⟨h1, fun i y hm => by simp at hm, ?_⟩ rfl h2
            simp only [if_true]
            exact ⟨trivial, trivial, j, want, t, hg, hs, .inr ⟨g, hgt, hgw⟩⟩
        · rename_i hgt
          obtain ⟨h1, h2⟩ := h
          refine key ⟨true, .tup [], [], false, []⟩ _ ⟨h1, fun i y hm => by simp at hm, ?_⟩ rfl h2
          simp only [if_true]
          exact ⟨trivial, trivial, j, want, t, hg, hs, .inl hgt⟩
        · exact h.elim

/-! the check -/
def opSlots (full : List Oper) (o : Oper) : List Nat :=
  (o.op.operands.toList.filterMap fun | .tmp t => some t | _ => none) ++ (match o.guard with | some (g, _) => (gslot full g).toList | none => [])

def ordered (bf : Array Nat) (i j : Nat) : Bool := if j < i then (bf.getD i 0).testBit j else (bf.getD j 0).testBit i

def meet (a b : List Nat) : Bool := a.any fun x => b.contains x

def pairOk (full : List Oper) (bf : Array Nat) (i j : Nat) (oi oj : Oper) (ei ej : Ent) : Bool :=
  i == j ||
  ((!((match oj.dst with | some t => (opSlots full oi).contains t || oi.dst == some t | none => false) || meet ej.w ei.t || (ei.all && !ej.w.isEmpty)) || ordered bf i j) &&
   (!meet ei.n (ej.t ++ ej.m) || (i < j && (bf.getD j 0).testBit i)))

def ordOk (full : List Oper) (lg : List Ent) : Bool :=
  (full.zip lg).zipIdx.all (fun (x, i) => (x.1.after.all fun e => !Region.binds .any e || e.on < i) && (full.zip lg).zipIdx.all fun (y, j) => pairOk full (Region.before full.toArray) i j x.1 y.1 x.2 y.2)

/-- What is made is new already where the region begins. -/
def newOk (s : St) : List Ent → Prop
  | [] => True
  | e :: r => (∀ i ∈ e.n, freshE i s.e ∧ freshH i s.h) ∧ newOk s r
end Go.AX
