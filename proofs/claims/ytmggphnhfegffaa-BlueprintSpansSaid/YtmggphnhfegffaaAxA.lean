import Derived.Calls
import Derived.Orders
import Derived.KernelRfl
set_option linter.unusedVariables false
set_option linter.unusedSimpArgs false
namespace Go.AX

/-- Data without addresses. A slice is the list of its elements, an element the list of its cells. -/
inductive D where
  | int (k : IntKind) (n : Int)
  | bool (b : Bool)
  | str (s : List UInt8)
  | sl (es : List (List D))
  deriving Inhabited

def LB : Nat := 281474976710656
/-- No bound is asked of a number that is data: what a law gets may be of any size. -/
def fits (k : IntKind) (n : Int) : Prop := True
def sized (n : Nat) : Prop := True

mutual
def RepD (w : World) (A : Nat → Prop) : D → Value → Prop
  | .int k n, v => v = .int k n ∧ fits k n
  | .bool b, v => v = .bool b
  | .str s, v => v = .string ⟨s.toArray⟩ ∧ sized s.length
  | .sl es, v => ∃ a cap, v = .slice a es.length cap ∧ es.length ≤ cap ∧ sized es.length ∧
      (es = [] ∨ ∃ b o s, a = some ⟨b, o, none⟩ ∧ A b ∧ RepEs w A b s o es)
def RepEs (w : World) (A : Nat → Prop) (b s : Nat) : Nat → List (List D) → Prop
  | _, [] => True
  | o, e :: r => e.length = s ∧ RepCs w A b o e ∧ RepEs w A b s (o + s) r
def RepCs (w : World) (A : Nat → Prop) (b : Nat) : Nat → List D → Prop
  | _, [] => True
  | o, d :: r => (∃ v, w.cell? ⟨b, o, none⟩ = some v ∧ RepD w A d v) ∧ RepCs w A b (o + 1) r
end

/-- Abstract values. -/
inductive AV where
  | any
  | d (x : D)
  | nils
  | nilp
  | ref (cs : List D)
  | box (id o : Nat)
  | elt (id i o n : Nat)
  | arr (id off len : Nat)
  | fn (f : FuncId) (caps : List AV)
  | agg (cs : List AV)
  | tup (vs : List AV)
  deriving Inhabited

inductive AObj where
  | box (cs : List AV)
  | arr (T sz : Nat) (es : List (List D))
  deriving Inhabited

abbrev EF := Nat → AV
abbrev HF := Nat → Option AObj
abbrev BF := Nat → Option Nat

def blkSize (w : World) (b : Nat) : Nat := match w.heap[b]? with | some (.cells c _ _) => c.size | _ => 0

def RepArr (w : World) (β : BF) (id sz n off len : Nat) (v : Value) : Prop :=
  (∃ a cap, v = .slice a len cap ∧ len ≤ cap) ∧ off + len ≤ n ∧
  (off + len = n → (β id = none ∧ off = 0 ∧ ∃ a, v = .slice a 0 0) ∨
    ∃ b a cap, β id = some b ∧ v = .slice (some a) len cap ∧ (cap = 0 ∨ a = ⟨b, off * sz, none⟩) ∧ (off + cap) * sz = blkSize w b ∧ cap ≤ 9223372036854775807)

mutual
def RepV (w : World) (A : Nat → Prop) (β : BF) (H : HF) : AV → Value → Prop
  | .any, _ => True
  | .d x, v => RepD w A x v
  | .nils, v => ∃ a, v = .slice a 0 0
  | .nilp, v => v = .pointer none
  | .ref cs, v => ∃ b o, v = .pointer (some ⟨b, o, none⟩) ∧ A b ∧ RepCs w A b o cs
  | .box id o, v => match H id with
    | some (.box _) => ∃ b, β id = some b ∧ v = .pointer (some ⟨b, o, none⟩)
    | _ => True
  | .elt id i o n, v => match H id with
    | some (.arr _ sz es) => n ≤ es.length ∧ (es.length = n → ∃ b, β id = some b ∧ v = .pointer (some ⟨b, i * sz + o, none⟩))
    | _ => True
  | .arr id off len, v => match H id with
    | some (.arr _ sz es) => RepArr w β id sz es.length off len v
    | _ => True
  | .fn f caps, v => ∃ cs, v = .func (.func f) #[] cs ∧ RepVs w A β H caps cs.toList
  | .agg cs, v => ∃ vs, v = .agg vs ∧ RepVs w A β H cs vs.toList
  | .tup cs, v => ∃ vs, v = .tuple vs ∧ RepVs w A β H cs vs.toList
def RepVs (w : World) (A : Nat → Prop) (β : BF) (H : HF) : List AV → List Value → Prop
  | [], vs => vs = []
  | x :: r, vs => ∃ v t, vs = v :: t ∧ RepV w A β H x v ∧ RepVs w A β H r t
end

mutual
def AV.ids : AV → List Nat
  | .box id _ => [id]
  | .elt id _ _ _ => [id]
  | .arr id _ _ => [id]
  | .fn _ caps => AV.idsL caps
  | .agg cs => AV.idsL cs
  | .tup cs => AV.idsL cs
  | .any => [] | .d _ => [] | .nils => [] | .nilp => [] | .ref _ => []
def AV.idsL : List AV → List Nat
  | [] => []
  | x :: r => x.ids ++ AV.idsL r
end

def AObj.ids : AObj → List Nat
  | .box cs => AV.idsL cs
  | .arr _ _ _ => []

structure HRel (w : World) (A : Nat → Prop) (β : BF) (H : HF) : Prop where
  box : ∀ id cs, H id = some (.box cs) → ∃ b c T, β id = some b ∧ w.heap[b]? = some (.cells c T (0, 0)) ∧ RepVs w A β H cs c.toList
  arr : ∀ id T sz es, H id = some (.arr T sz es) → es.length ≤ LB ∧ ((β id = none ∧ es = []) ∨
    ∃ b c, β id = some b ∧ w.heap[b]? = some (.cells c T (0, 0)) ∧ es.length * sz ≤ c.size ∧ RepEs w A b sz 0 es)
  inj : ∀ i j b, H i ≠ none → H j ≠ none → β i = some b → β j = some b → i = j
  sepA : ∀ i b, H i ≠ none → β i = some b → ¬ A b
  bound : ∀ b, A b → b < w.heap.size

/-- What may become of one object: a box stays where it is; an array may grow (and move then). -/
def Keep (w w' : World) (β β' : BF) (i : Nat) : AObj → AObj → Prop
  | .box _, .box _ => β' i = β i
  | .arr T sz es, .arr T' sz' es' => T' = T ∧ sz' = sz ∧ es.length ≤ es'.length ∧ (es.length = es'.length → β' i = β i ∧ ∀ b, β i = some b → blkSize w' b = blkSize w b)
  | _, _ => False

structure Trans (w : World) (A : Nat → Prop) (β : BF) (H : HF) (w' : World) (A' : Nat → Prop) (β' : BF) (H' : HF) : Prop where
  size : w.heap.size ≤ w'.heap.size
  os : w'.os = w.os
  tape : w'.tape = w.tape
  output : w'.output = w.output
  same : ∀ b, b < w.heap.size → (∀ i, H i ≠ none → β i ≠ some b) → w'.heap[b]? = w.heap[b]?
  mono : ∀ b, A b → A' b
  new : ∀ b, A' b → A b ∨ w.heap.size ≤ b ∨ ∃ i, H i ≠ none ∧ β i = some b
  own : ∀ i b, H' i ≠ none → β' i = some b → w.heap.size ≤ b ∨ ∃ j, H j ≠ none ∧ β j = some b
  keep : ∀ i o o', H i = some o → H' i = some o' → Keep w w' β β' i o o'

structure CfgF (n : Nat) (A : Nat → Prop) (β : BF) (E : EF) (H : HF) (a : Act) (w : World) : Prop where
  size : a.tmps.size = n
  defers : a.defers = []
  env : ∀ t, RepV w A β H (E t) (a.tmps.getD t undef)
  heap : HRel w A β H

theorem cell?_of_heap {w w' : World} {b o : Nat} (h : w'.heap[b]? = w.heap[b]?) : w'.cell? ⟨b, o, none⟩ = w.cell? ⟨b, o, none⟩ := by
  simp only [World.cell?, h]

theorem blkSize_of_heap {w w' : World} {b : Nat} (h : w'.heap[b]? = w.heap[b]?) : blkSize w' b = blkSize w b := by
  simp only [blkSize, h]

/-! ### Data stay readable -/
section stable
variable {w w' : World} {A A' : Nat → Prop}

mutual
theorem RepD.stable (hA : ∀ b, A b → A' b) (hs : ∀ b, A b → w'.heap[b]? = w.heap[b]?) : ∀ (d : D) (v : Value), RepD w A d v → RepD w' A' d v
  | .int k n, v, h => by simpa only [RepD] using h
  | .bool b, v, h => by simpa only [RepD] using h
  | .str s, v, h => by simpa only [RepD] using h
  | .sl es, v, h => by
    simp only [RepD] at h ⊢
    obtain ⟨a, cap, e, h1, h2, h3⟩ := h
    refine ⟨a, cap, e, h1, h2, ?_⟩
    rcases h3 with h3 | ⟨b, o, s, ha, hb, hr⟩
    · exact .inl h3
    · exact .inr ⟨b, o, s, ha, hA b hb, RepEs.stable hA hs b s (hs b hb) o es hr⟩
theorem RepEs.stable (hA : ∀ b, A b → A' b) (hs : ∀ b, A b → w'.heap[b]? = w.heap[b]?) (b s : Nat) (hb : w'.heap[b]? = w.heap[b]?) : ∀ (o : Nat) (es : List (List D)), RepEs w A b s o es → RepEs w' A' b s o es
  | o, [], h => by simp only [RepEs]
  | o, e :: r, h => by
    simp only [RepEs] at h ⊢
    exact ⟨h.1, RepCs.stable hA hs b hb o e h.2.1, RepEs.stable hA hs b s hb (o + s) r h.2.2⟩
theorem RepCs.stable (hA : ∀ b, A b → A' b) (hs : ∀ b, A b → w'.heap[b]? = w.heap[b]?) (b : Nat) (hb : w'.heap[b]? = w.heap[b]?) : ∀ (o : Nat) (ds : List D), RepCs w A b o ds → RepCs w' A' b o ds
  | o, [], h => by simp only [RepCs]
  | o, d :: r, h => by
    simp only [RepCs] at h ⊢
    obtain ⟨⟨v, hv, hd⟩, h2⟩ := h
    exact ⟨⟨v, by rw [cell?_of_heap hb]; exact hv, RepD.stable hA hs d v hd⟩, RepCs.stable hA hs b hb (o + 1) r h2⟩
end
end stable

/-- One id between two heaps: what a value that names it may still mean. -/
def IdOk (w w' : World) (β β' : BF) (H H' : HF) (i : Nat) : Prop :=
  ∀ o', H' i = some o' → ∃ o, H i = some o ∧ Keep w w' β β' i o o'

section stableV
variable {w w' : World} {A A' : Nat → Prop} {β β' : BF} {H H' : HF}

theorem RepArr.stable {id sz n n' off len : Nat} {v : Value} (hn : n ≤ n') (hk : n = n' → β' id = β id ∧ ∀ b, β id = some b → blkSize w' b = blkSize w b) (h : RepArr w β id sz n off len v) :
    RepArr w' β' id sz n' off len v := by
  obtain ⟨h1, h2, h3⟩ := h
  refine ⟨h1, by omega, fun he => ?_⟩
  have hn' : n = n' := by omega
  obtain ⟨k1, k2⟩ := hk hn'
  rcases h3 (by omega) with ⟨hb, ho, hv⟩ | ⟨b, a, cap, hb, hv, ha, hc⟩
  · exact .inl ⟨by rw [k1]; exact hb, ho, hv⟩
  · exact .inr ⟨b, a, cap, by rw [k1]; exact hb, hv, ha, by rw [k2 b hb]; exact hc⟩

mutual
theorem RepV.stable (hA : ∀ b, A b → A' b) (hs : ∀ b, A b → w'.heap[b]? = w.heap[b]?) : ∀ (x : AV) (v : Value), (∀ i ∈ x.ids, IdOk w w' β β' H H' i) → RepV w A β H x v → RepV w' A' β' H' x v
  | .any, v, _, h => by simp only [RepV]
  | .d x, v, _, h => by
    simp only [RepV] at h ⊢
    exact RepD.stable hA hs x v h
  | .nils, v, _, h => by simpa only [RepV] using h
  | .nilp, v, _, h => by simpa only [RepV] using h
  | .ref cs, v, _, h => by
    simp only [RepV] at h ⊢
    obtain ⟨b, o, e, hb, hc⟩ := h
    exact ⟨b, o, e, hA b hb, RepCs.stable hA hs b (hs b hb) o cs hc⟩
  | .box id o, v, hi, h => by
    simp only [RepV] at h ⊢
    have hid := hi id (by simp [AV.ids])
    cases hH' : H' id with
    | none => simp
    | some o' =>
      obtain ⟨o1, hH, hk⟩ := hid o' hH'
      rw [hH] at h
      cases o' with
      | arr T sz es => simp
      | box cs' =>
        cases o1 with
        | arr T sz es => exact hk.elim
        | box cs =>
          have hk : β' id = β id := hk
          simpa only [hk] using h
  | .elt id i o n, v, hi, h => by
    simp only [RepV] at h ⊢
    have hid := hi id (by simp [AV.ids])
    cases hH' : H' id with
    | none => simp
    | some o' =>
      obtain ⟨o1, hH, hk⟩ := hid o' hH'
      rw [hH] at h
      cases o' with
      | box cs => simp
      | arr T' sz' es' =>
        cases o1 with
        | box cs => exact hk.elim
        | arr T sz es =>
          obtain ⟨_, e1, e2, e3⟩ := hk
          subst e1
          simp only at h ⊢
          obtain ⟨h1, h2⟩ := h
          refine ⟨by omega, fun e => ?_⟩
          obtain ⟨b, hb, hv⟩ := h2 (by omega)
          exact ⟨b, by rw [(e3 (by omega)).1]; exact hb, hv⟩
  | .arr id off len, v, hi, h => by
    simp only [RepV] at h ⊢
    have hid := hi id (by simp [AV.ids])
    cases hH' : H' id with
    | none => simp
    | some o' =>
      obtain ⟨o1, hH, hk⟩ := hid o' hH'
      rw [hH] at h
      cases o' with
      | box cs => simp
      | arr T' sz' es' =>
        cases o1 with
        | box cs => exact hk.elim
        | arr T sz es =>
          obtain ⟨_, e1, e2, e3⟩ := hk
          subst e1
          exact RepArr.stable e2 e3 h
  | .fn f caps, v, hi, h => by
    simp only [RepV] at h ⊢
    obtain ⟨cs, e, hc⟩ := h
    exact ⟨cs, e, RepVs.stable hA hs caps cs.toList (by simpa only [AV.ids] using hi) hc⟩
  | .agg cs, v, hi, h => by
    simp only [RepV] at h ⊢
    obtain ⟨vs, e, hc⟩ := h
    exact ⟨vs, e, RepVs.stable hA hs cs vs.toList (by simpa only [AV.ids] using hi) hc⟩
  | .tup cs, v, hi, h => by
    simp only [RepV] at h ⊢
    obtain ⟨vs, e, hc⟩ := h
    exact ⟨vs, e, RepVs.stable hA hs cs vs.toList (by simpa only [AV.ids] using hi) hc⟩
theorem RepVs.stable (hA : ∀ b, A b → A' b) (hs : ∀ b, A b → w'.heap[b]? = w.heap[b]?) : ∀ (xs : List AV) (vs : List Value), (∀ i ∈ AV.idsL xs, IdOk w w' β β' H H' i) → RepVs w A β H xs vs → RepVs w' A' β' H' xs vs
  | [], vs, _, h => by simpa only [RepVs] using h
  | x :: r, vs, hi, h => by
    simp only [RepVs] at h ⊢
    obtain ⟨v, t, e, hx, hr⟩ := h
    exact ⟨v, t, e, RepV.stable hA hs x v (fun i hm => hi i (by simp [AV.idsL, hm])) hx, RepVs.stable hA hs r t (fun i hm => hi i (by simp [AV.idsL, hm])) hr⟩
end
end stableV
end Go.AX
