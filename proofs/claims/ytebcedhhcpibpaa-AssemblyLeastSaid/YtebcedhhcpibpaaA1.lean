import Derived.Calls
import Derived.Orders
import Derived.KernelRfl
import Derived.Laws.Sem
import Derived.Laws.World
import Derived.Laws.AppendOwn
import Derived.Laws.Entries
import Derived.Laws.Slices
import Derived.Laws.Strings
import Derived.Laws.StructEq
import Derived.Great.FillDense
import Derived.Laws.MakeOwn
import Derived.Laws.IdiomStrings
import Derived.Lib.ConvBytes
set_option linter.unusedVariables false
set_option linter.unusedSimpArgs false
namespace Go.AX

/-- Data without addresses. A slice is the list of its elements, an element the list of its cells. -/
inductive D where
  | int (k : IntKind) (n : Int)
  | bool (b : Bool)
  | str (s : List UInt8)
  | sl (es : List (List D))
  deriving Inhabited

def LB : Nat := 281474976710656
/-- No bound is asked of a number that is data: what a law gets may be of any size. -/
def fits (k : IntKind) (n : Int) : Prop := True
def sized (n : Nat) : Prop := True

mutual
def RepD (w : World) (A : Nat → Prop) : D → Value → Prop
  | .int k n, v => v = .int k n ∧ fits k n
  | .bool b, v => v = .bool b
  | .str s, v => v = .string ⟨s.toArray⟩ ∧ sized s.length
  | .sl es, v => ∃ a cap, v = .slice a es.length cap ∧ es.length ≤ cap ∧ sized es.length ∧
      (es = [] ∨ ∃ b o s, a = some ⟨b, o, none⟩ ∧ A b ∧ RepEs w A b s o es)
def RepEs (w : World) (A : Nat → Prop) (b s : Nat) : Nat → List (List D) → Prop
  | _, [] => True
  | o, e :: r => e.length = s ∧ RepCs w A b o e ∧ RepEs w A b s (o + s) r
def RepCs (w : World) (A : Nat → Prop) (b : Nat) : Nat → List D → Prop
  | _, [] => True
  | o, d :: r => (∃ v, w.cell? ⟨b, o, none⟩ = some v ∧ RepD w A d v) ∧ RepCs w A b (o + 1) r
end

/-- Abstract values. -/
inductive AV where
  | any
  | d (x : D)
  | nils
  | nilp
  | nl (b : Bool)
  | ref (cs : List D)
  | box (id o : Nat)
  | elt (id i o n : Nat)
  | arr (id off len : Nat)
  | fn (f : FuncId) (caps : List AV)
  | agg (cs : List AV)
  | tup (vs : List AV)
  deriving Inhabited

inductive AObj where
  | box (cs : List AV)
  | arr (T sz : Nat) (es : List (List D))
  | pre (ds : List D)
  deriving Inhabited

abbrev EF := Nat → AV
abbrev HF := Nat → Option AObj
abbrev BF := Nat → Option Nat

def blkSize (w : World) (b : Nat) : Nat := match w.heap[b]? with | some (.cells c _ _) => c.size | _ => 0

def RepArr (w : World) (β : BF) (id sz n off len : Nat) (v : Value) : Prop :=
  (∃ a cap, v = .slice a len cap ∧ len ≤ cap) ∧ off + len ≤ n ∧
  (off + len = n → (β id = none ∧ off = 0 ∧ ∃ a, v = .slice a 0 0) ∨
    ∃ b a cap, β id = some b ∧ v = .slice (some a) len cap ∧ (cap = 0 ∨ a = ⟨b, off * sz, none⟩) ∧ (off + cap) * sz = blkSize w b ∧ cap ≤ 9223372036854775807)

mutual
def RepV (w : World) (A : Nat → Prop) (β : BF) (H : HF) : AV → Value → Prop
  | .any, _ => True
  | .d x, v => RepD w A x v
  | .nils, v => ∃ a, v = .slice a 0 0
  | .nilp, v => v = .pointer none
  | .nl b, v => ∃ a cap, v = .slice a 0 cap ∧ a.isNone = b
  | .ref cs, v => ∃ b o, v = .pointer (some ⟨b, o, none⟩) ∧ A b ∧ RepCs w A b o cs
  | .box id o, v => match H id with
    | some (.box _) => ∃ b, β id = some b ∧ v = .pointer (some ⟨b, o, none⟩)
    | some (.pre _) => ∃ b, β id = some b ∧ v = .pointer (some ⟨b, o, none⟩)
    | _ => True
  | .elt id i o n, v => match H id with
    | some (.arr _ sz es) => n ≤ es.length ∧ (es.length = n → ∃ b, β id = some b ∧ v = .pointer (some ⟨b, i * sz + o, none⟩))
    | _ => True
  | .arr id off len, v => match H id with
    | some (.arr _ sz es) => RepArr w β id sz es.length off len v
    | some (.box _) => ∃ b ad cap, β id = some b ∧ v = .slice (some ad) len cap ∧ len ≤ cap ∧ (cap = 0 ∨ ad = ⟨b, off, none⟩) ∧ off + cap = blkSize w b
    | some (.pre _) => ∃ b ad cap, β id = some b ∧ v = .slice (some ad) len cap ∧ len ≤ cap ∧ (cap = 0 ∨ ad = ⟨b, off, none⟩) ∧ off + cap = blkSize w b
    | none => True
  | .fn f caps, v => ∃ cs, v = .func (.func f) #[] cs ∧ RepVs w A β H caps cs.toList
  | .agg cs, v => ∃ vs, v = .agg vs ∧ RepVs w A β H cs vs.toList
  | .tup cs, v => ∃ vs, v = .tuple vs ∧ RepVs w A β H cs vs.toList
def RepVs (w : World) (A : Nat → Prop) (β : BF) (H : HF) : List AV → List Value → Prop
  | [], vs => vs = []
  | x :: r, vs => ∃ v t, vs = v :: t ∧ RepV w A β H x v ∧ RepVs w A β H r t
end

mutual
def AV.ids : AV → List Nat
  | .box id _ => [id]
  | .elt id _ _ _ => [id]
  | .arr id _ _ => [id]
  | .fn _ caps => AV.idsL caps
  | .agg cs => AV.idsL cs
  | .tup cs => AV.idsL cs
  | .any => [] | .d _ => [] | .nils => [] | .nilp => [] | .nl _ => [] | .ref _ => []
def AV.idsL : List AV → List Nat
  | [] => []
  | x :: r => x.ids ++ AV.idsL r
end

def AObj.ids : AObj → List Nat
  | .box cs => AV.idsL cs
  | .arr _ _ _ => []
  | .pre _ => []

structure HRel (w : World) (A : Nat → Prop) (β : BF) (H : HF) : Prop where
  box : ∀ id cs, H id = some (.box cs) → ∃ b c T, β id = some b ∧ w.heap[b]? = some (.cells c T (0, 0)) ∧ RepVs w A β H cs c.toList
  arr : ∀ id T sz es, H id = some (.arr T sz es) → es.length ≤ LB ∧ ((β id = none ∧ es = []) ∨
    ∃ b c, β id = some b ∧ (∃ T', w.heap[b]? = some (.cells c T' (0, 0))) ∧ es.length * sz ≤ c.size ∧ RepEs w A b sz 0 es)
  inj : ∀ i j b, H i ≠ none → H j ≠ none → β i = some b → β j = some b → i = j
  sepA : ∀ i b, H i ≠ none → β i = some b → ¬ A b
  bound : ∀ b, A b → b < w.heap.size
  pre : ∀ id ds, H id = some (.pre ds) → ∃ b c T vs us, β id = some b ∧ w.heap[b]? = some (.cells c T (0, 0)) ∧ c.toList = vs ++ us ∧ RepVs w A β H (ds.map AV.d) vs

/-- What may become of one object: a box stays where it is; an array may grow (and move then). -/
def Keep (w w' : World) (β β' : BF) (i : Nat) : AObj → AObj → Prop
  | .box _, .box _ => β' i = β i ∧ ∀ b, β i = some b → blkSize w' b = blkSize w b
  | .pre _, .pre _ => β' i = β i ∧ ∀ b, β i = some b → blkSize w' b = blkSize w b
  | .box _, .pre _ => β' i = β i ∧ ∀ b, β i = some b → blkSize w' b = blkSize w b
  | .pre _, .box _ => β' i = β i ∧ ∀ b, β i = some b → blkSize w' b = blkSize w b
  | .arr T sz es, .arr T' sz' es' => T' = T ∧ sz' = sz ∧ es.length ≤ es'.length ∧ (es.length = es'.length → β' i = β i ∧ ∀ b, β i = some b → blkSize w' b = blkSize w b)
  | _, _ => False

structure Trans (w : World) (A : Nat → Prop) (β : BF) (H : HF) (w' : World) (A' : Nat → Prop) (β' : BF) (H' : HF) : Prop where
  size : w.heap.size ≤ w'.heap.size
  os : w'.os = w.os
  tape : w'.tape = w.tape
  output : w'.output = w.output
  same : ∀ b, b < w.heap.size → (∀ i, H i ≠ none → β i ≠ some b) → w'.heap[b]? = w.heap[b]?
  mono : ∀ b, A b → A' b
  new : ∀ b, A' b → A b ∨ w.heap.size ≤ b ∨ ∃ i, H i ≠ none ∧ β i = some b
  own : ∀ i b, H' i ≠ none → β' i = some b → w.heap.size ≤ b ∨ ∃ j, H j ≠ none ∧ β j = some b
  keep : ∀ i o o', H i = some o → H' i = some o' → Keep w w' β β' i o o'

structure CfgF (n : Nat) (A : Nat → Prop) (β : BF) (E : EF) (H : HF) (a : Act) (w : World) : Prop where
  size : a.tmps.size = n
  defers : a.defers = []
  env : ∀ t, RepV w A β H (E t) (a.tmps.getD t undef)
  heap : HRel w A β H

theorem cell?_of_heap {w w' : World} {b o : Nat} (h : w'.heap[b]? = w.heap[b]?) : w'.cell? ⟨b, o, none⟩ = w.cell? ⟨b, o, none⟩ := by
  simp only [World.cell?, h]

theorem blkSize_of_heap {w w' : World} {b : Nat} (h : w'.heap[b]? = w.heap[b]?) : blkSize w' b = blkSize w b := by
  simp only [blkSize, h]

section stable
variable {w w' : World} {A A' : Nat → Prop}

mutual
theorem RepD.stable (hA : ∀ b, A b → A' b) (hs : ∀ b, A b → w'.heap[b]? = w.heap[b]?) : ∀ (d : D) (v : Value), RepD w A d v → RepD w' A' d v
  | .int k n, v, h => by simpa only [RepD] using h
  | .bool b, v, h => by simpa only [RepD] using h
  | .str s, v, h => by simpa only [RepD] using h
  | .sl es, v, h => by
    simp only [RepD] at h ⊢
    obtain ⟨a, cap, e, h1, h2, h3⟩ := h
    refine ⟨a, cap, e, h1, h2, ?_⟩
    rcases h3 with h3 | ⟨b, o, s, ha, hb, hr⟩
    · exact .inl h3
    · exact .inr ⟨b, o, s, ha, hA b hb, RepEs.stable hA hs b s (hs b hb) o es hr⟩
theorem RepEs.stable (hA : ∀ b, A b → A' b) (hs : ∀ b, A b → w'.heap[b]? = w.heap[b]?) (b s : Nat) (hb : w'.heap[b]? = w.heap[b]?) : ∀ (o : Nat) (es : List (List D)), RepEs w A b s o es → RepEs w' A' b s o es
  | o, [], h => by simp only [RepEs]
  | o, e :: r, h => by
    simp only [RepEs] at h ⊢
    exact ⟨h.1, RepCs.stable hA hs b hb o e h.2.1, RepEs.stable hA hs b s hb (o + s) r h.2.2⟩
theorem RepCs.stable (hA : ∀ b, A b → A' b) (hs : ∀ b, A b → w'.heap[b]? = w.heap[b]?) (b : Nat) (hb : w'.heap[b]? = w.heap[b]?) : ∀ (o : Nat) (ds : List D), RepCs w A b o ds → RepCs w' A' b o ds
  | o, [], h => by simp only [RepCs]
  | o, d :: r, h => by
    simp only [RepCs] at h ⊢
    obtain ⟨⟨v, hv, hd⟩, h2⟩ := h
    exact ⟨⟨v, by rw [cell?_of_heap hb]; exact hv, RepD.stable hA hs d v hd⟩, RepCs.stable hA hs b hb (o + 1) r h2⟩
end
end stable

/-- One id between two heaps: what a value that names it may still mean. -/
def IdOk (w w' : World) (β β' : BF) (H H' : HF) (i : Nat) : Prop :=
  ∀ o', H' i = some o' → ∃ o, H i = some o ∧ Keep w w' β β' i o o'

section stableV
variable {w w' : World} {A A' : Nat → Prop} {β β' : BF} {H H' : HF}

theorem RepArr.stable {id sz n n' off len : Nat} {v : Value} (hn : n ≤ n') (hk : n = n' → β' id = β id ∧ ∀ b, β id = some b → blkSize w' b = blkSize w b) (h : RepArr w β id sz n off len v) :
    RepArr w' β' id sz n' off len v := by
  obtain ⟨h1, h2, h3⟩ := h
  refine ⟨h1, by omega, fun he => ?_⟩
  have hn' : n = n' := by omega
  obtain ⟨k1, k2⟩ := hk hn'
  rcases h3 (by omega) with ⟨hb, ho, hv⟩ | ⟨b, a, cap, hb, hv, ha, hc⟩
  · exact .inl ⟨by rw [k1]; exact hb, ho, hv⟩
  · exact .inr ⟨b, a, cap, by rw [k1]; exact hb, hv, ha, by rw [k2 b hb]; exact hc⟩

mutual
theorem RepV.stable (hA : ∀ b, A b → A' b) (hs : ∀ b, A b → w'.heap[b]? = w.heap[b]?) : ∀ (x : AV) (v : Value), (∀ i ∈ x.ids, IdOk w w' β β' H H' i) → RepV w A β H x v → RepV w' A' β' H' x v
  | .any, v, _, h => by simp only [RepV]
  | .d x, v, _, h => by
    simp only [RepV] at h ⊢
    exact RepD.stable hA hs x v h
  | .nils, v, _, h => by simpa only [RepV] using h
  | .nilp, v, _, h => by simpa only [RepV] using h
  | .nl _, v, _, h => by simpa only [RepV] using h
  | .ref cs, v, _, h => by
    simp only [RepV] at h ⊢
    obtain ⟨b, o, e, hb, hc⟩ := h
    exact ⟨b, o, e, hA b hb, RepCs.stable hA hs b (hs b hb) o cs hc⟩
  | .box id o, v, hi, h => by
    simp only [RepV] at h ⊢
    have hid := hi id (by simp [AV.ids])
    cases hH' : H' id with
    | none => simp
    | some o' =>
      obtain ⟨o1, hH, hk⟩ := hid o' hH'
      rw [hH] at h
      cases o' with
      | arr T sz es => simp
      | pre ds' =>
        cases o1 with
        | arr T sz es => exact hk.elim
        | pre ds =>
          have hk : β' id = β id := hk.1
          simpa only [hk] using h
        | box cs =>
          have hk : β' id = β id := hk.1
          simpa only [hk] using h
      | box cs' =>
        cases o1 with
        | arr T sz es => exact hk.elim
        | pre ds =>
          have hk : β' id = β id := hk.1
          simpa only [hk] using h
        | box cs =>
          have hk : β' id = β id := hk.1
          simpa only [hk] using h
  | .elt id i o n, v, hi, h => by
    simp only [RepV] at h ⊢
    have hid := hi id (by simp [AV.ids])
    cases hH' : H' id with
    | none => simp
    | some o' =>
      obtain ⟨o1, hH, hk⟩ := hid o' hH'
      rw [hH] at h
      cases o' with
      | box cs => simp
      | pre ds => simp
      | arr T' sz' es' =>
        cases o1 with
        | box cs => exact hk.elim
        | pre ds => exact hk.elim
        | arr T sz es =>
          obtain ⟨_, e1, e2, e3⟩ := hk
          subst e1
          simp only at h ⊢
          obtain ⟨h1, h2⟩ := h
          refine ⟨by omega, fun e => ?_⟩
          obtain ⟨b, hb, hv⟩ := h2 (by omega)
          exact ⟨b, by rw [(e3 (by omega)).1]; exact hb, hv⟩
  | .arr id off len, v, hi, h => by
    simp only [RepV] at h ⊢
    have hid := hi id (by simp [AV.ids])
    cases hH' : H' id with
    | none => simp
    | some o' =>
      obtain ⟨o1, hH, hk⟩ := hid o' hH'
      rw [hH] at h
      cases o' with
      | box cs' =>
        cases o1 with
        | arr T sz es => exact hk.elim
        | pre ds =>
          obtain ⟨hk1, hk2⟩ := hk
          obtain ⟨b, ad, cap, hb, h1, h2, h3, h4⟩ := h
          exact ⟨b, ad, cap, by rw [hk1]; exact hb, h1, h2, h3, by rw [hk2 b hb]; exact h4⟩
        | box cs =>
          obtain ⟨hk1, hk2⟩ := hk
          obtain ⟨b, ad, cap, hb, h1, h2, h3, h4⟩ := h
          exact ⟨b, ad, cap, by rw [hk1]; exact hb, h1, h2, h3, by rw [hk2 b hb]; exact h4⟩
      | pre ds' =>
        cases o1 with
        | arr T sz es => exact hk.elim
        | pre ds =>
          obtain ⟨hk1, hk2⟩ := hk
          obtain ⟨b, ad, cap, hb, h1, h2, h3, h4⟩ := h
          exact ⟨b, ad, cap, by rw [hk1]; exact hb, h1, h2, h3, by rw [hk2 b hb]; exact h4⟩
        | box cs =>
          obtain ⟨hk1, hk2⟩ := hk
          obtain ⟨b, ad, cap, hb, h1, h2, h3, h4⟩ := h
          exact ⟨b, ad, cap, by rw [hk1]; exact hb, h1, h2, h3, by rw [hk2 b hb]; exact h4⟩
      | arr T' sz' es' =>
        cases o1 with
        | box cs => exact hk.elim
        | pre ds => exact hk.elim
        | arr T sz es =>
          obtain ⟨_, e1, e2, e3⟩ := hk
          subst e1
          exact RepArr.stable e2 e3 h
  | .fn f caps, v, hi, h => by
    simp only [RepV] at h ⊢
    obtain ⟨cs, e, hc⟩ := h
    exact ⟨cs, e, RepVs.stable hA hs caps cs.toList (by simpa only [AV.ids] using hi) hc⟩
  | .agg cs, v, hi, h => by
    simp only [RepV] at h ⊢
    obtain ⟨vs, e, hc⟩ := h
    exact ⟨vs, e, RepVs.stable hA hs cs vs.toList (by simpa only [AV.ids] using hi) hc⟩
  | .tup cs, v, hi, h => by
    simp only [RepV] at h ⊢
    obtain ⟨vs, e, hc⟩ := h
    exact ⟨vs, e, RepVs.stable hA hs cs vs.toList (by simpa only [AV.ids] using hi) hc⟩
theorem RepVs.stable (hA : ∀ b, A b → A' b) (hs : ∀ b, A b → w'.heap[b]? = w.heap[b]?) : ∀ (xs : List AV) (vs : List Value), (∀ i ∈ AV.idsL xs, IdOk w w' β β' H H' i) → RepVs w A β H xs vs → RepVs w' A' β' H' xs vs
  | [], vs, _, h => by simpa only [RepVs] using h
  | x :: r, vs, hi, h => by
    simp only [RepVs] at h ⊢
    obtain ⟨v, t, e, hx, hr⟩ := h
    exact ⟨v, t, e, RepV.stable hA hs x v (fun i hm => hi i (by simp [AV.idsL, hm])) hx, RepVs.stable hA hs r t (fun i hm => hi i (by simp [AV.idsL, hm])) hr⟩
end
end stableV
end Go.AX
set_option linter.unusedVariables false
set_option linter.unusedSimpArgs false
namespace Go.AX

theorem Keep.refl (w : World) (β : BF) (i : Nat) : ∀ o : AObj, Keep w w β β i o o
  | .box _ => ⟨rfl, fun _ _ => rfl⟩
  | .arr _ _ _ => ⟨rfl, rfl, Nat.le_refl _, fun _ => ⟨rfl, fun _ _ => rfl⟩⟩
  | .pre _ => ⟨rfl, fun _ _ => rfl⟩

theorem Keep.trans {w w' w'' : World} {β β' β'' : BF} {i : Nat} {o o' o'' : AObj} (h : Keep w w' β β' i o o') (k : Keep w' w'' β' β'' i o' o'') : Keep w w'' β β'' i o o'' := by
  have key : ∀ {p q r : Prop}, (β' i = β i ∧ ∀ b, β i = some b → blkSize w' b = blkSize w b) → (β'' i = β' i ∧ ∀ b, β' i = some b → blkSize w'' b = blkSize w' b) → (β'' i = β i ∧ ∀ b, β i = some b → blkSize w'' b = blkSize w b) := fun h k =>
    ⟨k.1.trans h.1, fun b hb => by rw [k.2 b (by rw [h.1]; exact hb), h.2 b hb]⟩
  cases o with
  | arr T sz es =>
    cases o' with
    | box cs => exact h.elim
    | pre cs => exact h.elim
    | arr T' sz' es' =>
      cases o'' with
      | box cs => exact k.elim
      | pre cs => exact k.elim
      | arr T'' sz'' es'' =>
        obtain ⟨a1, a2, a3, a4⟩ := h
        obtain ⟨b1, b2, b3, b4⟩ := k
        refine ⟨b1.trans a1, b2.trans a2, Nat.le_trans a3 b3, fun e => ?_⟩
        have e1 : es.length = es'.length := by omega
        have e2 : es'.length = es''.length := by omega
        refine ⟨(b4 e2).1.trans (a4 e1).1, fun b hb => ?_⟩
        rw [(b4 e2).2 b (by rw [(a4 e1).1]; exact hb), (a4 e1).2 b hb]
  | box cs =>
    cases o' with
    | arr T sz es => exact h.elim
    | _ =>
      cases o'' with
      | arr T sz es => exact k.elim
      | _ => exact key (p := True) (q := True) (r := True) h k
  | pre cs =>
    cases o' with
    | arr T sz es => exact h.elim
    | _ =>
      cases o'' with
      | arr T sz es => exact k.elim
      | _ => exact key (p := True) (q := True) (r := True) h k

theorem Trans.refl (w : World) (A : Nat → Prop) (β : BF) (H : HF) : Trans w A β H w A β H :=
  ⟨Nat.le_refl _, rfl, rfl, rfl, fun _ _ _ => rfl, fun _ h => h, fun _ h => .inl h, fun i b hi hb => .inr ⟨i, hi, hb⟩,
    fun i o o' h h' => by rw [h] at h'; cases h'; exact Keep.refl w β i o⟩

theorem Trans.comp {w A β H w' A' β' H' w'' A'' β'' H''} (h : Trans w A β H w' A' β' H') (k : Trans w' A' β' H' w'' A'' β'' H'')
    (hd : ∀ i, H i ≠ none → H' i = none → H'' i = none) : Trans w A β H w'' A'' β'' H'' := by
  refine ⟨Nat.le_trans h.size k.size, k.os.trans h.os, k.tape.trans h.tape, k.output.trans h.output, fun b hb ho => ?_, fun b hb => k.mono b (h.mono b hb), fun b hb => ?_, fun i b hi hb => ?_, fun i o o'' ho ho'' => ?_⟩
  · rw [k.same b (Nat.lt_of_lt_of_le hb h.size) (fun i hi hbi => ?_), h.same b hb ho]
    rcases h.own i b hi hbi with h1 | ⟨j, hj, hbj⟩
    · omega
    · exact ho j hj hbj
  · rcases k.new b hb with h1 | h1 | ⟨i, hi, hbi⟩
    · exact h.new b h1
    · exact .inr (.inl (Nat.le_trans h.size h1))
    · rcases h.own i b hi hbi with h1 | h1
      · exact .inr (.inl h1)
      · exact .inr (.inr h1)
  · rcases k.own i b hi hb with h1 | ⟨j, hj, hbj⟩
    · exact .inl (Nat.le_trans h.size h1)
    · exact h.own j b hj hbj
  · cases h1 : H' i with
    | none => rw [hd i (by simp [ho]) h1] at ho''; cases ho''
    | some o' => exact (h.keep i o o' ho h1).trans (k.keep i o' o'' h1 ho'')

def RepDs (w : World) (A : Nat → Prop) : List D → List Value → Prop
  | [], vs => vs = []
  | d :: r, vs => ∃ v t, vs = v :: t ∧ RepD w A d v ∧ RepDs w A r t

theorem RepDs.length {w A} : ∀ {ds : List D} {vs : List Value}, RepDs w A ds vs → vs.length = ds.length
  | [], vs, h => by simp only [RepDs] at h; simp [h]
  | d :: r, vs, h => by
    simp only [RepDs] at h
    obtain ⟨v, t, rfl, _, h⟩ := h
    simp [RepDs.length h]

theorem RepDs.append {w A} : ∀ {ds es : List D} {vs us : List Value}, RepDs w A ds vs → RepDs w A es us → RepDs w A (ds ++ es) (vs ++ us)
  | [], es, vs, us, h, k => by simp only [RepDs] at h; simpa [h] using k
  | d :: r, es, vs, us, h, k => by
    simp only [RepDs] at h
    obtain ⟨v, t, rfl, hd, h⟩ := h
    simp only [List.cons_append, RepDs]
    exact ⟨v, t ++ us, rfl, hd, RepDs.append h k⟩

theorem RepDs.split {w A} : ∀ {ds es : List D} {vs : List Value}, RepDs w A (ds ++ es) vs → ∃ xs ys, vs = xs ++ ys ∧ RepDs w A ds xs ∧ RepDs w A es ys
  | [], es, vs, h => ⟨[], vs, rfl, by simp [RepDs], h⟩
  | d :: r, es, vs, h => by
    simp only [List.cons_append, RepDs] at h
    obtain ⟨v, t, rfl, hd, h⟩ := h
    obtain ⟨xs, ys, rfl, h1, h2⟩ := RepDs.split h
    exact ⟨v :: xs, ys, rfl, by simp only [RepDs]; exact ⟨v, xs, rfl, hd, h1⟩, h2⟩

theorem RepDs.stable {w w' A A'} (hA : ∀ b, A b → A' b) (hs : ∀ b, A b → w'.heap[b]? = w.heap[b]?) : ∀ {ds : List D} {vs : List Value}, RepDs w A ds vs → RepDs w' A' ds vs
  | [], vs, h => by simpa only [RepDs] using h
  | d :: r, vs, h => by
    simp only [RepDs] at h ⊢
    obtain ⟨v, t, e, hd, h⟩ := h
    exact ⟨v, t, e, RepD.stable hA hs d v hd, RepDs.stable hA hs h⟩

theorem RepVs_d {w A β H} : ∀ {ds : List D} {vs : List Value}, RepVs w A β H (ds.map AV.d) vs ↔ RepDs w A ds vs
  | [], vs => by simp [RepVs, RepDs]
  | d :: r, vs => by simp [RepVs, RepDs, RepV, RepVs_d (ds := r)]

theorem RepVs.stableD {w w' A A' β β' H H'} (hA : ∀ b, A b → A' b) (hs : ∀ b, A b → w'.heap[b]? = w.heap[b]?) {ds : List D} {vs : List Value} (h : RepVs w A β H (ds.map AV.d) vs) : RepVs w' A' β' H' (ds.map AV.d) vs :=
  RepVs_d.2 (RepDs.stable hA hs (RepVs_d.1 h))
theorem RepVs.length {w A β H} : ∀ {xs : List AV} {vs : List Value}, RepVs w A β H xs vs → vs.length = xs.length
  | [], vs, h => by simp only [RepVs] at h; simp [h]
  | d :: r, vs, h => by
    simp only [RepVs] at h
    obtain ⟨v, t, rfl, _, h⟩ := h
    simp [RepVs.length h]

theorem RepVs.append {w A β H} : ∀ {ds es : List AV} {vs us : List Value}, RepVs w A β H ds vs → RepVs w A β H es us → RepVs w A β H (ds ++ es) (vs ++ us)
  | [], es, vs, us, h, k => by simp only [RepVs] at h; simpa [h] using k
  | d :: r, es, vs, us, h, k => by
    simp only [RepVs] at h
    obtain ⟨v, t, rfl, hd, h⟩ := h
    simp only [List.cons_append, RepVs]
    exact ⟨v, t ++ us, rfl, hd, RepVs.append h k⟩

theorem RepVs.get {w A β H} : ∀ {xs : List AV} {vs : List Value}, RepVs w A β H xs vs → ∀ (i : Nat) (x : AV), xs[i]? = some x → ∃ v, vs[i]? = some v ∧ RepV w A β H x v
  | [], vs, h, i, x, hx => by simp at hx
  | y :: r, vs, h, i, x, hx => by
    simp only [RepVs] at h
    obtain ⟨v, t, rfl, hd, h⟩ := h
    cases i with
    | zero => simp at hx; subst hx; exact ⟨v, by simp, hd⟩
    | succ i => simpa using RepVs.get h i x (by simpa using hx)

theorem RepVs.take {w A β H} : ∀ {xs : List AV} {vs : List Value} (n : Nat), RepVs w A β H xs vs → RepVs w A β H (xs.take n) (vs.take n)
  | xs, vs, 0, h => by simp [RepVs]
  | [], vs, n + 1, h => by simp only [RepVs] at h; simp [h, RepVs]
  | x :: r, vs, n + 1, h => by
    simp only [RepVs] at h
    obtain ⟨v, t, rfl, hd, h⟩ := h
    simp only [List.take_succ_cons, RepVs]
    exact ⟨v, t.take n, rfl, hd, RepVs.take n h⟩

theorem RepVs.drop {w A β H} : ∀ {xs : List AV} {vs : List Value} (n : Nat), RepVs w A β H xs vs → RepVs w A β H (xs.drop n) (vs.drop n)
  | xs, vs, 0, h => by simpa using h
  | [], vs, n + 1, h => by simp only [RepVs] at h; simp [h, RepVs]
  | x :: r, vs, n + 1, h => by
    simp only [RepVs] at h
    obtain ⟨v, t, rfl, hd, h⟩ := h
    simpa using RepVs.drop n h

/-- From the block's values to elements. -/
theorem RepCs.of_values {w A b} : ∀ {ds : List D} {vs : List Value} {o : Nat}, RepDs w A ds vs → (∀ (j : Nat) (v : Value), vs[j]? = some v → w.cell? ⟨b, o + j, none⟩ = some v) → RepCs w A b o ds
  | [], vs, o, h, k => by simp only [RepCs]
  | d :: r, vs, o, h, k => by
    simp only [RepDs] at h
    obtain ⟨v, t, rfl, hd, h⟩ := h
    simp only [RepCs]
    exact ⟨⟨v, k 0 v (by simp), hd⟩, RepCs.of_values h fun j u hu => by rw [show o + 1 + j = o + (j + 1) by omega]; exact k (j + 1) u (by simpa using hu)⟩

theorem RepCs.values {w A b} : ∀ {ds : List D} {o : Nat}, RepCs w A b o ds → ∃ vs, RepDs w A ds vs ∧ ∀ (j : Nat) (v : Value), vs[j]? = some v → w.cell? ⟨b, o + j, none⟩ = some v
  | [], o, h => ⟨[], by simp [RepDs], by simp⟩
  | d :: r, o, h => by
    simp only [RepCs] at h
    obtain ⟨⟨v, hv, hd⟩, h⟩ := h
    obtain ⟨vs, h1, h2⟩ := RepCs.values h
    refine ⟨v :: vs, by simp only [RepDs]; exact ⟨v, vs, rfl, hd, h1⟩, fun j u hu => ?_⟩
    cases j with
    | zero => simp at hu; subst hu; simpa using hv
    | succ j => have := h2 j u (by simpa using hu); rwa [show o + 1 + j = o + (j + 1) by omega] at this

theorem RepEs.of_values {w A b sz} : ∀ {es : List (List D)} {vs : List Value} {o : Nat}, (∀ e ∈ es, e.length = sz) → RepDs w A es.flatten vs → (∀ (j : Nat) (v : Value), vs[j]? = some v → w.cell? ⟨b, o + j, none⟩ = some v) → RepEs w A b sz o es
  | [], vs, o, hl, h, k => by simp only [RepEs]
  | e :: r, vs, o, hl, h, k => by
    simp only [List.flatten_cons] at h
    obtain ⟨xs, ys, rfl, h1, h2⟩ := RepDs.split h
    have he : e.length = sz := hl e (by simp)
    have hxl := RepDs.length h1
    simp only [RepEs]
    refine ⟨he, RepCs.of_values h1 fun j v hj => k j v ?_, RepEs.of_values (fun e' he' => hl e' (by simp [he'])) h2 fun j v hj => ?_⟩
    · rw [List.getElem?_append_left]
      · exact hj
      · exact (List.getElem?_eq_some_iff.1 hj).1
    · have := k (sz + j) v (by rw [List.getElem?_append_right (by omega)]; rw [show sz + j - xs.length = j by omega]; exact hj)
      rwa [show o + sz + j = o + (sz + j) by omega]

theorem RepEs.values {w A b sz} : ∀ {es : List (List D)} {o : Nat}, RepEs w A b sz o es → (∀ e ∈ es, e.length = sz) ∧ ∃ vs, vs.length = es.length * sz ∧ RepDs w A es.flatten vs ∧ ∀ (j : Nat) (v : Value), vs[j]? = some v → w.cell? ⟨b, o + j, none⟩ = some v
  | [], o, h => ⟨by simp, [], by simp, by simp [RepDs], by simp⟩
  | e :: r, o, h => by
    simp only [RepEs] at h
    obtain ⟨he, hc, h⟩ := h
    obtain ⟨xs, h1, h2⟩ := RepCs.values hc
    obtain ⟨hl, ys, hyl, h3, h4⟩ := RepEs.values h
    have hxl := RepDs.length h1
    refine ⟨?_, xs ++ ys, ?_, by simpa using h1.append h3, fun j v hj => ?_⟩
    · intro e' he'
      rcases List.mem_cons.1 he' with rfl | he'
      · exact he
      · exact hl e' he'
    · simp [hxl, hyl, he, Nat.add_mul]; omega
    · by_cases hlt : j < xs.length
      · rw [List.getElem?_append_left hlt] at hj; exact h2 j v hj
      · rw [List.getElem?_append_right (by omega)] at hj
        have := h4 (j - xs.length) v hj
        rwa [show o + sz + (j - xs.length) = o + j by omega] at this

/-- The i-th element. -/
theorem RepEs.get {w A b sz} : ∀ {es : List (List D)} {o : Nat}, RepEs w A b sz o es → ∀ (i : Nat) (e : List D), es[i]? = some e → e.length = sz ∧ RepCs w A b (o + i * sz) e
  | [], o, h, i, e, he => by simp at he
  | x :: r, o, h, i, e, he => by
    simp only [RepEs] at h
    obtain ⟨h1, h2, h3⟩ := h
    cases i with
    | zero => simp at he; subst he; simpa using ⟨h1, h2⟩
    | succ i =>
      have := RepEs.get h3 i e (by simpa using he)
      rwa [show o + sz + i * sz = o + (i + 1) * sz by rw [Nat.add_mul]; omega] at this

theorem RepEs.drop {w A b sz} : ∀ {es : List (List D)} {o : Nat} (n : Nat), RepEs w A b sz o es → n ≤ es.length → RepEs w A b sz (o + n * sz) (es.drop n)
  | es, o, 0, h, hn => by simpa using h
  | [], o, n + 1, h, hn => by simp at hn
  | e :: r, o, n + 1, h, hn => by
    simp only [RepEs] at h
    have := RepEs.drop n h.2.2 (by simpa using hn)
    simpa [Nat.add_mul, Nat.add_assoc, Nat.add_comm, Nat.add_left_comm] using this

theorem RepEs.take {w A b sz} : ∀ {es : List (List D)} {o : Nat} (n : Nat), RepEs w A b sz o es → RepEs w A b sz o (es.take n)
  | es, o, 0, h => by simp [RepEs]
  | [], o, n + 1, h => by simp [RepEs]
  | e :: r, o, n + 1, h => by
    simp only [RepEs] at h
    simp only [List.take_succ_cons, RepEs]
    exact ⟨h.1, h.2.1, RepEs.take n h.2.2⟩

theorem RepCs.drop {w A b} : ∀ {ds : List D} {o : Nat} (n : Nat), RepCs w A b o ds → RepCs w A b (o + n) (ds.drop n)
  | ds, o, 0, h => by simpa using h
  | [], o, n + 1, h => by simp [RepCs]
  | d :: r, o, n + 1, h => by
    simp only [RepCs] at h
    have := RepCs.drop n h.2
    simpa [Nat.add_assoc, Nat.add_comm, Nat.add_left_comm] using this

theorem RepD.oneCell {w A} {d : D} {v : Value} (h : RepD w A d v) : v.oneCell' = true := by
  cases d <;> simp only [RepD] at h
  · rw [h.1]; rfl
  · rw [h]; rfl
  · rw [h.1]; rfl
  · obtain ⟨a, cap, e, _⟩ := h; rw [e]; rfl
end Go.AX
set_option linter.unusedVariables false
set_option linter.unusedSimpArgs false
namespace Go.AX

def Fresh (i : Nat) (E : EF) (H : HF) : Prop := H i = none ∧ (∀ t, i ∉ (E t).ids) ∧ (∀ j o, H j = some o → i ∉ o.ids)

theorem CfgF.update {n A β E H a w A' β' H' w'} (h : CfgF n A β E H a w) (hA : ∀ b, A b → A' b) (hs : ∀ b, A b → w'.heap[b]? = w.heap[b]?)
    (hid : ∀ i o', H' i = some o' → (∃ o, H i = some o ∧ Keep w w' β β' i o o') ∨ Fresh i E H) (hh : HRel w' A' β' H') : CfgF n A' β' E H' a w' :=
  ⟨h.size, h.defers, fun t => RepV.stable hA hs _ _ (fun i hi o' ho' => by
    rcases hid i o' ho' with h1 | h1
    · exact h1
    · exact absurd hi (h1.2.1 t)) (h.env t), hh⟩

theorem getD_set (xs : Array Value) (i j : Nat) (v d : Value) : (xs.setIfInBounds i v).getD j d = if i = j ∧ i < xs.size then v else xs.getD j d := by
  simp only [Array.getD_eq_getD_getElem?, Array.getElem?_setIfInBounds]
  by_cases h : i = j
  · subst h
    by_cases h2 : i < xs.size
    · simp [h2]
    · simp [h2]
  · simp [h]

def putE (E : EF) : Option Nat → AV → EF
  | none, _ => E
  | some d, x => fun t => if t = d then x else E t

theorem CfgF.put {n A β E H a w} (h : CfgF n A β E H a w) {dst : Option Nat} {x : AV} {v : Value} (hd : ∀ d, dst = some d → d < n) (hx : RepV w A β H x v) :
    CfgF n A β (putE E dst x) H (a.put dst v) w := by
  cases dst with
  | none => exact h
  | some d =>
    refine ⟨by simpa [Act.put] using h.size, h.defers, fun t => ?_, h.heap⟩
    simp only [Act.put, putE, getD_set]
    by_cases ht : t = d
    · subst ht
      have := hd t rfl
      simp only [if_pos, h.size, this, and_self]
      exact hx
    · have : ¬ d = t := fun e => ht e.symm
      simp only [this, ht, false_and, if_false]
      exact h.env t

/-- Forget what a slot or an object holds. -/
theorem CfgF.weaken {n A β E H a w} (h : CfgF n A β E H a w) {E' : EF} {H' : HF} (hE : ∀ t, E' t = .any ∨ E' t = E t) (hH : ∀ i, H' i = none ∨ H' i = H i) :
    CfgF n A β E' H' a w ∧ Trans w A β H w A β H' := by
  have hid : ∀ i o', H' i = some o' → ∃ o, H i = some o ∧ Keep w w β β i o o' := fun i o' ho' => by
    rcases hH i with h1 | h1
    · rw [h1] at ho'; cases ho'
    · exact ⟨o', by rw [← h1]; exact ho', Keep.refl w β i o'⟩
  have hH' : ∀ i, H' i ≠ none → H i ≠ none := fun i hi => by
    rcases hH i with h1 | h1
    · exact absurd h1 hi
    · rwa [← h1]
  have heq : ∀ i o, H' i = some o → H i = some o := fun i o ho => by
    rcases hH i with h1 | h1
    · rw [h1] at ho; cases ho
    · rw [← h1]; exact ho
  refine ⟨⟨h.size, h.defers, fun t => ?_, ⟨fun id cs hi => ?_, fun id T sz es hi => h.heap.arr id T sz es (heq _ _ hi), fun i j b hi hj => h.heap.inj i j b (hH' i hi) (hH' j hj), fun i b hi => h.heap.sepA i b (hH' i hi), h.heap.bound, fun id ds hi => ?_⟩⟩,
    ⟨Nat.le_refl _, rfl, rfl, rfl, fun _ _ _ => rfl, fun _ h => h, fun _ h => .inl h, fun i b hi hb => .inr ⟨i, hH' i hi, hb⟩, fun i o o' ho ho' => by rw [heq _ _ ho'] at ho; cases ho; exact Keep.refl w β i _⟩⟩
  · rcases hE t with h1 | h1
    · rw [h1]; simp only [RepV]
    · rw [h1]
      exact RepV.stable (fun _ h => h) (fun _ _ => rfl) _ _ (fun i _ => hid i) (h.env t)
  · obtain ⟨b, c, T, hb, hc, hr⟩ := h.heap.box id cs (heq _ _ hi)
    exact ⟨b, c, T, hb, hc, RepVs.stable (fun _ h => h) (fun _ _ => rfl) _ _ (fun i _ => hid i) hr⟩
  · obtain ⟨b, c, T, vs, us, hb, hc, he, hr⟩ := h.heap.pre id ds (heq _ _ hi)
    exact ⟨b, c, T, vs, us, hb, hc, he, hr.stableD (fun _ h => h) (fun _ _ => rfl)⟩

/-- A new object in a new block. -/
theorem CfgF.alloc {n A β E H a w} (h : CfgF n A β E H a w) {nm : Nat} (hf : Fresh nm E H) (cells : Array Value) (T : TypeId) (o' : AObj)
    (ho : match o' with
      | .box cs => RepVs w A β H cs cells.toList ∧ nm ∉ AV.idsL cs
      | .arr T' sz es => T' = T ∧ es.length ≤ LB ∧ es.length * sz ≤ cells.size ∧ (∀ e ∈ es, e.length = sz) ∧ ∃ vs us, cells.toList = vs ++ us ∧ RepDs w A es.flatten vs
      | .pre ds => ∃ vs us, cells.toList = vs ++ us ∧ RepVs w A β H (ds.map AV.d) vs) :
    CfgF n A (fun i => if i = nm then some w.heap.size else β i) E (fun i => if i = nm then some o' else H i) a (w.alloc (.cells cells T)) ∧
    Trans w A β H (w.alloc (.cells cells T)) A (fun i => if i = nm then some w.heap.size else β i) (fun i => if i = nm then some o' else H i) := by
  have hs : ∀ b, A b → (w.alloc (.cells cells T)).heap[b]? = w.heap[b]? := fun b hb => heap_alloc_old w _ b (h.heap.bound b hb)
  have hnew : (w.alloc (.cells cells T)).heap[w.heap.size]? = some (.cells cells T (0, 0)) := heap_alloc_new w _
  have hβ : ∀ i b, H i ≠ none → β i = some b → b < w.heap.size := fun i b hi hb => by
    cases hHi : H i with
    | none => exact absurd hHi hi
    | some o =>
      cases o with
      | box cs =>
        obtain ⟨b', c, T, hb', hc, _⟩ := h.heap.box i cs hHi
        rw [hb] at hb'; cases hb'
        exact (Array.getElem?_eq_some_iff.1 hc).1
      | pre ds =>
        obtain ⟨b', c, T, _, _, hb', hc, _⟩ := h.heap.pre i ds hHi
        rw [hb] at hb'; cases hb'
        exact (Array.getElem?_eq_some_iff.1 hc).1
      | arr T' sz es =>
        obtain ⟨_, h2⟩ := h.heap.arr i T' sz es hHi
        rcases h2 with ⟨h2, _⟩ | ⟨b', c, hb', ⟨_, hc⟩, _⟩
        · rw [hb] at h2; cases h2
        · rw [hb] at hb'; cases hb'
          exact (Array.getElem?_eq_some_iff.1 hc).1
  have keep : ∀ i o, H i = some o → i ≠ nm → Keep w (w.alloc (.cells cells T)) β (fun i => if i = nm then some w.heap.size else β i) i o o := fun i o hi hne => by
    cases o with
    | box cs => exact ⟨by simp [hne], fun b hb => blkSize_of_heap (heap_alloc_old w _ b (hβ i b (by simp [hi]) hb))⟩
    | pre ds => exact ⟨by simp [hne], fun b hb => blkSize_of_heap (heap_alloc_old w _ b (hβ i b (by simp [hi]) hb))⟩
    | arr T' sz es =>
      refine ⟨rfl, rfl, Nat.le_refl _, fun _ => ⟨by simp [hne], fun b hb => blkSize_of_heap (heap_alloc_old w _ b (hβ i b (by simp [hi]) hb))⟩⟩
  have stab : ∀ x v, nm ∉ x.ids → RepV w A β H x v → RepV (w.alloc (.cells cells T)) A (fun i => if i = nm then some w.heap.size else β i) (fun i => if i = nm then some o' else H i) x v := fun x v hx hr =>
    RepV.stable (fun _ h => h) hs x v (fun i hi o1 ho1 => by
      have hne : i ≠ nm := fun e => hx (e ▸ hi)
      simp only [hne, if_false] at ho1
      exact ⟨o1, ho1, keep i o1 ho1 hne⟩) hr
  have stabs : ∀ xs vs, nm ∉ AV.idsL xs → RepVs w A β H xs vs → RepVs (w.alloc (.cells cells T)) A (fun i => if i = nm then some w.heap.size else β i) (fun i => if i = nm then some o' else H i) xs vs := fun x v hx hr =>
    RepVs.stable (fun _ h => h) hs x v (fun i hi o1 ho1 => by
      have hne : i ≠ nm := fun e => hx (e ▸ hi)
      simp only [hne, if_false] at ho1
      exact ⟨o1, ho1, keep i o1 ho1 hne⟩) hr
  have hh : HRel (w.alloc (.cells cells T)) A (fun i => if i = nm then some w.heap.size else β i) (fun i => if i = nm then some o' else H i) := by
    refine ⟨fun id cs hi => ?_, fun id T' sz es hi => ?_, fun i j b hi hj hb1 hb2 => ?_, fun i b hi hb => ?_, fun b hb => ?_, fun id ds hi => ?_⟩
    · by_cases e : id = nm
      · subst e
        simp only [if_true, Option.some.injEq] at hi
        subst hi
        exact ⟨w.heap.size, cells, T, by simp, hnew, stabs _ _ ho.2 ho.1⟩
      · simp only [e, if_false] at hi
        obtain ⟨b, c, T', hb, hc, hr⟩ := h.heap.box id cs hi
        refine ⟨b, c, T', by simpa [e] using hb, ?_, stabs _ _ (hf.2.2 id _ hi) hr⟩
        rw [heap_alloc_old w _ b (Array.getElem?_eq_some_iff.1 hc).1]; exact hc
    · by_cases e : id = nm
      · subst e
        simp only [if_true, Option.some.injEq] at hi
        subst hi
        obtain ⟨rfl, h1, h2, h3, vs, us, h4, h5⟩ := ho
        refine ⟨h1, .inr ⟨w.heap.size, cells, by simp, ⟨_, hnew⟩, h2, RepEs.of_values h3 (h5.stable (fun _ h => h) hs) fun j v hj => ?_⟩⟩
        simp only [World.cell?, hnew, Option.isSome_none, Bool.false_eq_true, if_false, Nat.zero_add]
        rw [← Array.getElem?_toList, h4, List.getElem?_append_left (List.getElem?_eq_some_iff.1 hj).1]
        exact hj
      · simp only [e, if_false] at hi
        obtain ⟨h1, h2⟩ := h.heap.arr id T' sz es hi
        refine ⟨h1, ?_⟩
        rcases h2 with ⟨h2, h3⟩ | ⟨b, c, hb, ⟨T1, hc⟩, h3, h4⟩
        · exact .inl ⟨by simpa [e] using h2, h3⟩
        · have hlt := (Array.getElem?_eq_some_iff.1 hc).1
          refine .inr ⟨b, c, by simpa [e] using hb, ⟨T1, by rw [heap_alloc_old w _ b hlt]; exact hc⟩, h3, ?_⟩
          exact RepEs.stable (fun _ h => h) hs b sz (heap_alloc_old w _ b hlt) 0 es h4
    · by_cases e1 : i = nm <;> by_cases e2 : j = nm <;> simp only [e1, e2, if_true, if_false] at hi hj hb1 hb2
      · rw [e1, e2]
      · have := hβ j b hj hb2; cases hb1; omega
      · have := hβ i b hi hb1; cases hb2; omega
      · exact h.heap.inj i j b hi hj hb1 hb2
    · by_cases e1 : i = nm
      · simp only [e1, if_true, Option.some.injEq] at hb
        intro hA
        have := h.heap.bound b hA
        omega
      · simp only [e1, if_false] at hi hb
        exact h.heap.sepA i b hi hb
    · have := h.heap.bound b hb; simp only [World.size_alloc]; omega
    · by_cases e : id = nm
      · subst e
        simp only [if_true, Option.some.injEq] at hi
        subst hi
        obtain ⟨vs, us, h4, h5⟩ := ho
        exact ⟨w.heap.size, cells, T, vs, us, by simp, hnew, h4, h5.stableD (fun _ h => h) hs⟩
      · simp only [e, if_false] at hi
        obtain ⟨b, c, T', vs, us, hb, hc, he, hr⟩ := h.heap.pre id ds hi
        refine ⟨b, c, T', vs, us, by simpa [e] using hb, ?_, he, hr.stableD (fun _ h => h) hs⟩
        rw [heap_alloc_old w _ b (Array.getElem?_eq_some_iff.1 hc).1]; exact hc
  refine ⟨h.update (fun _ h => h) hs (fun i o1 ho1 => ?_) hh, ⟨by simp, rfl, rfl, rfl, fun b hb _ => heap_alloc_old w _ b hb, fun _ h => h, fun _ h => .inl h, fun i b hi hb => ?_, fun i o o1 ho1 ho2 => ?_⟩⟩
  · by_cases e : i = nm
    · subst e; exact .inr hf
    · simp only [e, if_false] at ho1
      exact .inl ⟨o1, ho1, keep i o1 ho1 e⟩
  · by_cases e : i = nm
    · simp only [e, if_true, Option.some.injEq] at hb; exact .inl (by omega)
    · simp only [e, if_false] at hi hb; exact .inr ⟨i, hi, hb⟩
  · by_cases e : i = nm
    · subst e; rw [hf.1] at ho1; cases ho1
    · simp only [e, if_false] at ho2
      rw [ho1] at ho2; cases ho2
      exact keep i o ho1 e

/-- An array becomes data that nobody writes any more. -/
theorem CfgF.freeze {n A β E H a w} (h : CfgF n A β E H a w) (id : Nat) :
    CfgF n (fun b => A b ∨ (H id ≠ none ∧ β id = some b)) β E (fun i => if i = id then none else H i) a w ∧
    Trans w A β H w (fun b => A b ∨ (H id ≠ none ∧ β id = some b)) β (fun i => if i = id then none else H i) := by
  have hA : ∀ b, A b → (A b ∨ (H id ≠ none ∧ β id = some b)) := fun _ h => .inl h
  have idok : ∀ i o', (if i = id then none else H i) = some o' → ∃ o, H i = some o ∧ Keep w w β β i o o' := fun i o' ho' => by
    by_cases e : i = id
    · simp [e] at ho'
    · simp only [e, if_false] at ho'
      exact ⟨o', ho', Keep.refl w β i o'⟩
  have hne : ∀ i, (if i = id then none else H i) ≠ none → i ≠ id ∧ H i ≠ none := fun i hi => by
    by_cases e : i = id
    · simp [e] at hi
    · simpa [e] using hi
  have hh : HRel w (fun b => A b ∨ (H id ≠ none ∧ β id = some b)) β (fun i => if i = id then none else H i) := by
    refine ⟨fun i cs hi => ?_, fun i T' sz es hi => ?_, fun i j b hi hj hb1 hb2 => ?_, fun i b hi hb => ?_, fun b hb => ?_, fun i ds hi => ?_⟩
    · by_cases e : i = id
      · simp [e] at hi
      · simp only [e, if_false] at hi
        obtain ⟨b, c, T', hb, hc, hr⟩ := h.heap.box i cs hi
        exact ⟨b, c, T', hb, hc, RepVs.stable hA (fun _ _ => rfl) _ _ (fun i _ => idok i) hr⟩
    · by_cases e : i = id
      · simp [e] at hi
      · simp only [e, if_false] at hi
        obtain ⟨h1, h2⟩ := h.heap.arr i T' sz es hi
        refine ⟨h1, h2.imp (fun h => h) fun ⟨b, c, hb, hc, h3, h4⟩ => ⟨b, c, hb, hc, h3, RepEs.stable hA (fun _ _ => rfl) b sz rfl 0 es h4⟩⟩
    · exact h.heap.inj i j b (hne i hi).2 (hne j hj).2 hb1 hb2
    · rintro (h1 | ⟨h1, h2⟩)
      · exact h.heap.sepA i b (hne i hi).2 hb h1
      · exact (hne i hi).1 (h.heap.inj i id b (hne i hi).2 h1 hb h2)
    · rcases hb with hb | ⟨h1, h2⟩
      · exact h.heap.bound b hb
      · cases ho : H id with
        | none => exact absurd ho h1
        | some o =>
          cases o with
          | box cs =>
            obtain ⟨b', c, T, hb', hc, _⟩ := h.heap.box id cs ho
            rw [h2] at hb'; cases hb'
            exact (Array.getElem?_eq_some_iff.1 hc).1
          | pre ds =>
            obtain ⟨b', c, T, _, _, hb', hc, _⟩ := h.heap.pre id ds ho
            rw [h2] at hb'; cases hb'
            exact (Array.getElem?_eq_some_iff.1 hc).1
          | arr T' sz es =>
            obtain ⟨_, h3⟩ := h.heap.arr id T' sz es ho
            rcases h3 with ⟨h3, _⟩ | ⟨b', c, hb', ⟨_, hc⟩, _⟩
            · rw [h2] at h3; cases h3
            · rw [h2] at hb'; cases hb'
              exact (Array.getElem?_eq_some_iff.1 hc).1
    · by_cases e : i = id
      · simp [e] at hi
      · simp only [e, if_false] at hi
        obtain ⟨b, c, T', vs, us, hb, hc, he, hr⟩ := h.heap.pre i ds hi
        exact ⟨b, c, T', vs, us, hb, hc, he, hr.stableD hA (fun _ _ => rfl)⟩
  refine ⟨h.update hA (fun _ _ => rfl) (fun i o1 ho1 => .inl (idok i o1 ho1)) hh, ⟨Nat.le_refl _, rfl, rfl, rfl, fun _ _ _ => rfl, hA, fun b hb => ?_, fun i b hi hb => .inr ⟨i, (hne i hi).2, hb⟩, fun i o o1 ho1 ho2 => ?_⟩⟩
  · rcases hb with hb | ⟨h1, h2⟩
    · exact .inl hb
    · exact .inr (.inr ⟨id, h1, h2⟩)
  · obtain ⟨o2, h1, h2⟩ := idok i o1 ho2
    rw [ho1] at h1; cases h1; exact h2

/-- Behind the freezing the array reads as data. -/
theorem CfgF.frozen_rep {n A β E H a w} (h : CfgF n A β E H a w) {id T sz es} (ho : H id = some (.arr T sz es)) {off len v} (hv : RepV w A β H (.arr id off len) v) (hs : off + len = es.length) :
    RepD w (fun b => A b ∨ (H id ≠ none ∧ β id = some b)) (.sl ((es.drop off).take len)) v := by
  simp only [RepV, ho] at hv
  obtain ⟨⟨a0, cap0, rfl, hc0⟩, _, h3⟩ := hv
  obtain ⟨h1, h2⟩ := h.heap.arr id T sz es ho
  have hlen : ((es.drop off).take len).length = len := by simp; omega
  simp only [RepD]
  refine ⟨a0, cap0, by rw [hlen], by rw [hlen]; exact hc0, trivial, ?_⟩
  by_cases hz : len = 0
  · exact .inl (by simp [hz])
  rcases h3 hs with ⟨hb, hoff, a, hv⟩ | ⟨b, a, cap, hb, hv, ha, hcap, _⟩
  · cases hv; omega
  · rcases h2 with ⟨h2, _⟩ | ⟨b', c, hb', hc, hle, hr⟩
    · rw [hb] at h2; cases h2
    rw [hb] at hb'; cases hb'
    cases hv
    rcases ha with ha | ha
    · omega
    · subst ha
      refine .inr ⟨b, off * sz, sz, rfl, .inr ⟨by simp [ho], hb⟩, ?_⟩
      have h5 := RepEs.take len (RepEs.drop off hr (by omega))
      rw [Nat.zero_add] at h5
      exact RepEs.stable (fun b hb => .inl hb) (fun _ _ => rfl) b sz rfl _ _ h5
end Go.AX
set_option linter.unusedVariables false
set_option linter.unusedSimpArgs false
namespace Go.AX

theorem HRel.lt {w A β H} (h : HRel w A β H) {i b : Nat} (hi : H i ≠ none) (hb : β i = some b) : b < w.heap.size := by
  cases hHi : H i with
  | none => exact absurd hHi hi
  | some o =>
    cases o with
    | box cs =>
      obtain ⟨b', c, T, hb', hc, _⟩ := h.box i cs hHi
      rw [hb] at hb'; cases hb'
      exact (Array.getElem?_eq_some_iff.1 hc).1
    | pre ds =>
      obtain ⟨b', c, T, _, _, hb', hc, _⟩ := h.pre i ds hHi
      rw [hb] at hb'; cases hb'
      exact (Array.getElem?_eq_some_iff.1 hc).1
    | arr T' sz es =>
      obtain ⟨_, h2⟩ := h.arr i T' sz es hHi
      rcases h2 with ⟨h2, _⟩ | ⟨b', c, hb', ⟨_, hc⟩, _⟩
      · rw [hb] at h2; cases h2
      · rw [hb] at hb'; cases hb'
        exact (Array.getElem?_eq_some_iff.1 hc).1

/-- One object changes: its own block is written, or it moves to a new one. -/
theorem CfgF.change {n A β E H a w} (h : CfgF n A β E H a w) {id : Nat} {o : AObj} (ho : H id = some o) (o' : AObj) {β' : BF} {w' : World} {b' : Nat}
    (hsize : w.heap.size ≤ w'.heap.size) (hos : w'.os = w.os) (htape : w'.tape = w.tape) (hout : w'.output = w.output)
    (hoth : ∀ b, b < w.heap.size → β id ≠ some b → w'.heap[b]? = w.heap[b]?)
    (hβ : ∀ i, i ≠ id → β' i = β i) (hb' : β' id = some b') (hnew : β id = some b' ∨ w.heap.size ≤ b')
    (hkeep : Keep w w' β β' id o o')
    (hcont : match o' with
      | .box cs => ∃ c T, w'.heap[b']? = some (.cells c T (0, 0)) ∧ RepVs w A β H cs c.toList
      | .arr T sz es => es.length ≤ LB ∧ ∃ c, (∃ T', w'.heap[b']? = some (.cells c T' (0, 0))) ∧ es.length * sz ≤ c.size ∧ (∀ e ∈ es, e.length = sz) ∧ ∃ vs us, c.toList = vs ++ us ∧ RepDs w A es.flatten vs
      | .pre ds => ∃ c T vs us, w'.heap[b']? = some (.cells c T (0, 0)) ∧ c.toList = vs ++ us ∧ RepVs w A β H (ds.map AV.d) vs) :
    CfgF n A β' E (fun i => if i = id then some o' else H i) a w' ∧ Trans w A β H w' A β' (fun i => if i = id then some o' else H i) := by
  have hid : H id ≠ none := by simp [ho]
  have hs : ∀ b, A b → w'.heap[b]? = w.heap[b]? := fun b hb => hoth b (h.heap.bound b hb) fun e => h.heap.sepA id b hid e hb
  have hoi : ∀ i b, i ≠ id → H i ≠ none → β i = some b → w'.heap[b]? = w.heap[b]? := fun i b hne hi hb =>
    hoth b (h.heap.lt hi hb) fun e => hne (h.heap.inj i id b hi hid hb e)
  have idok : ∀ i o1, (if i = id then some o' else H i) = some o1 → ∃ o2, H i = some o2 ∧ Keep w w' β β' i o2 o1 := fun i o1 h1 => by
    by_cases e : i = id
    · subst e
      simp only [if_true, Option.some.injEq] at h1
      subst h1
      exact ⟨o, ho, hkeep⟩
    · simp only [e, if_false] at h1
      refine ⟨o1, h1, ?_⟩
      cases o1 with
      | box cs => exact ⟨hβ i e, fun b hb => blkSize_of_heap (hoi i b e (by simp [h1]) hb)⟩
      | pre cs => exact ⟨hβ i e, fun b hb => blkSize_of_heap (hoi i b e (by simp [h1]) hb)⟩
      | arr T sz es => exact ⟨rfl, rfl, Nat.le_refl _, fun _ => ⟨hβ i e, fun b hb => blkSize_of_heap (hoi i b e (by simp [h1]) hb)⟩⟩
  have hne : ∀ i, i ≠ id → (if i = id then some o' else H i) ≠ none → H i ≠ none := fun i e hi => by simpa [e] using hi
  have fresh : ∀ i b, i ≠ id → H i ≠ none → β i = some b → b ≠ b' := fun i b e hi hb eb => by
    subst eb
    rcases hnew with h1 | h1
    · exact e (h.heap.inj i id b hi hid hb h1)
    · have := h.heap.lt hi hb; omega
  have hh : HRel w' A β' (fun i => if i = id then some o' else H i) := by
    refine ⟨fun i cs hi => ?_, fun i T sz es hi => ?_, fun i j b hi hj hb1 hb2 => ?_, fun i b hi hb hA => ?_, fun b hb => ?_, fun i ds hi => ?_⟩
    · by_cases e : i = id
      · subst e
        simp only [if_true, Option.some.injEq] at hi
        subst hi
        obtain ⟨c, T, hc, hr⟩ := hcont
        exact ⟨b', c, T, hb', hc, RepVs.stable (fun _ h => h) hs _ _ (fun i _ => idok i) hr⟩
      · simp only [e, if_false] at hi
        obtain ⟨b, c, T, hb, hc, hr⟩ := h.heap.box i cs hi
        exact ⟨b, c, T, by rw [hβ i e]; exact hb, by rw [hoi i b e (by simp [hi]) hb]; exact hc, RepVs.stable (fun _ h => h) hs _ _ (fun i _ => idok i) hr⟩
    · by_cases e : i = id
      · subst e
        simp only [if_true, Option.some.injEq] at hi
        subst hi
        obtain ⟨h1, c, ⟨T1, hc⟩, h2, h3, vs, us, h4, h5⟩ := hcont
        refine ⟨h1, .inr ⟨b', c, hb', ⟨_, hc⟩, h2, RepEs.of_values h3 (h5.stable (fun _ h => h) hs) fun j v hj => ?_⟩⟩
        simp only [World.cell?, hc, Option.isSome_none, Bool.false_eq_true, if_false, Nat.zero_add]
        rw [← Array.getElem?_toList, h4, List.getElem?_append_left (List.getElem?_eq_some_iff.1 hj).1]
        exact hj
      · simp only [e, if_false] at hi
        obtain ⟨h1, h2⟩ := h.heap.arr i T sz es hi
        refine ⟨h1, ?_⟩
        rcases h2 with ⟨h2, h3⟩ | ⟨b, c, hb, ⟨T1, hc⟩, h3, h4⟩
        · exact .inl ⟨by rw [hβ i e]; exact h2, h3⟩
        · refine .inr ⟨b, c, by rw [hβ i e]; exact hb, ⟨T1, by rw [hoi i b e (by simp [hi]) hb]; exact hc⟩, h3, ?_⟩
          exact RepEs.stable (fun _ h => h) hs b sz (hoi i b e (by simp [hi]) hb) 0 es h4
    · by_cases e1 : i = id <;> by_cases e2 : j = id
      · rw [e1, e2]
      · subst e1
        rw [hb'] at hb1; cases hb1
        rw [hβ j e2] at hb2
        exact absurd rfl (fresh j _ e2 (hne j e2 hj) hb2)
      · subst e2
        rw [hb'] at hb2; cases hb2
        rw [hβ i e1] at hb1
        exact absurd rfl (fresh i _ e1 (hne i e1 hi) hb1)
      · rw [hβ i e1] at hb1; rw [hβ j e2] at hb2
        exact h.heap.inj i j b (hne i e1 hi) (hne j e2 hj) hb1 hb2
    · by_cases e : i = id
      · subst e
        rw [hb'] at hb; cases hb
        rcases hnew with h1 | h1
        · exact h.heap.sepA i _ hid h1 hA
        · have := h.heap.bound _ hA; omega
      · rw [hβ i e] at hb
        exact h.heap.sepA i b (hne i e hi) hb hA
    · exact Nat.lt_of_lt_of_le (h.heap.bound b hb) hsize
    · by_cases e : i = id
      · subst e
        simp only [if_true, Option.some.injEq] at hi
        subst hi
        obtain ⟨c, T, vs, us, hc, he, hr⟩ := hcont
        exact ⟨b', c, T, vs, us, hb', hc, he, hr.stableD (fun _ h => h) hs⟩
      · simp only [e, if_false] at hi
        obtain ⟨b, c, T, vs, us, hb, hc, he, hr⟩ := h.heap.pre i ds hi
        exact ⟨b, c, T, vs, us, by rw [hβ i e]; exact hb, by rw [hoi i b e (by simp [hi]) hb]; exact hc, he, hr.stableD (fun _ h => h) hs⟩
  refine ⟨h.update (fun _ h => h) hs (fun i o1 ho1 => .inl (idok i o1 ho1)) hh, ⟨hsize, hos, htape, hout, fun b hb hn => hoth b hb (hn id hid), fun _ h => h, fun _ h => .inl h, fun i b hi hb => ?_, fun i o2 o1 ho2 ho1 => ?_⟩⟩
  · by_cases e : i = id
    · subst e
      rw [hb'] at hb; cases hb
      rcases hnew with h1 | h1
      · exact .inr ⟨i, hid, h1⟩
      · exact .inl h1
    · rw [hβ i e] at hb
      exact .inr ⟨i, hne i e hi, hb⟩
  · obtain ⟨o3, h1, h2⟩ := idok i o1 ho1
    rw [ho2] at h1; cases h1; exact h2

/-- The same, the object's own block written. -/
theorem CfgF.write {n A β E H a w} (h : CfgF n A β E H a w) {id : Nat} {o : AObj} (ho : H id = some o) (o' : AObj) {b : Nat} {c c' : Array Value} {T : TypeId}
    (hb : β id = some b) (hc : w.heap[b]? = some (.cells c T (0, 0))) (hcs : c'.size = c.size)
    (hcont : match o, o' with
      | .box _, .box cs => RepVs w A β H cs c'.toList
      | .box _, .pre ds => ∃ vs us, c'.toList = vs ++ us ∧ RepVs w A β H (ds.map AV.d) vs
      | .arr T1 sz1 es1, .arr T2 sz es => T2 = T1 ∧ sz = sz1 ∧ es1.length ≤ es.length ∧ es.length ≤ LB ∧ es.length * sz ≤ c'.size ∧ (∀ e ∈ es, e.length = sz) ∧ ∃ vs us, c'.toList = vs ++ us ∧ RepDs w A es.flatten vs
      | _, _ => False) :
    CfgF n A β E (fun i => if i = id then some o' else H i) a (w.setRow b c') ∧ Trans w A β H (w.setRow b c') A β (fun i => if i = id then some o' else H i) := by
  refine h.change ho o' (b' := b) (by simp) rfl rfl rfl (fun b1 _ hne => setRow_other w b b1 c' (fun e => hne (e ▸ hb))) (fun _ _ => rfl) hb (.inl hb) ?_ ?_
  · have hbs : β id = β id ∧ ∀ b1, β id = some b1 → blkSize (w.setRow b c') b1 = blkSize w b1 := by
      refine ⟨rfl, fun b1 hb1 => ?_⟩
      rw [hb] at hb1; cases hb1
      simp only [blkSize, setRow_heap w b c c' T _ hc, hc, hcs]
    cases o with
    | pre ds => exact hcont.elim
    | box cs => cases o' with
      | box cs' => exact hbs
      | pre ds => exact hbs
      | arr T sz es => exact hcont.elim
    | arr T1 sz1 es1 => cases o' with
      | box cs' => exact hcont.elim
      | pre ds => exact hcont.elim
      | arr T2 sz es =>
        obtain ⟨h1, h3, h4, _⟩ := hcont
        exact ⟨h1, h3, h4, fun _ => hbs⟩
  · cases o with
    | pre ds => exact hcont.elim
    | box cs => cases o' with
      | box cs' => exact ⟨c', T, setRow_heap w b c c' T _ hc, hcont⟩
      | pre ds =>
        obtain ⟨vs, us, h1, h2⟩ := hcont
        exact ⟨c', T, vs, us, setRow_heap w b c c' T _ hc, h1, h2⟩
      | arr T sz es => exact hcont.elim
    | arr T1 sz1 es1 => cases o' with
      | box cs' => exact hcont.elim
      | pre ds => exact hcont.elim
      | arr T2 sz es =>
        obtain ⟨h1, h3, h4, h5, h6, h7, h8⟩ := hcont
        exact ⟨h5, c', ⟨_, setRow_heap w b c c' _ _ hc⟩, h6, h7, h8⟩

theorem run_firstCells_rep {P : Program} (w : World) (size m : Nat) (ax : Option Addr) (c : Nat) (news : List Value) (hl : news.length = m * size)
    (hx : m = 0 ∨ ∃ ad, ax = some ad ∧ ∀ (j : Nat) (v : Value), news[j]? = some v → w.cell? (ad.add j) = some v) :
    (Builtin.firstCells size m (.slice ax m c)).run P w = .ok news.toArray w := by
  rcases hx with rfl | ⟨ad, rfl, h⟩
  · have : news = [] := List.eq_nil_of_length_eq_zero (by simpa using hl)
    subst this
    cases ax with
    | none => simp [Builtin.firstCells]
    | some ad => exact run_firstCells_some (P := P) w size 0 ad 0 c [] (by simp) (by simp)
  · exact run_firstCells_some (P := P) w size m ad m c news hl h

section
variable {P : Program} (w : World)
theorem run_append_grow' (t ty e : TypeId) (i : TypeInfo) (z : Value) (ht : P.underlying t = some (.slice e)) (hi : P.info? e = some i) (hz : i.zero = some z)
    (b : Option Addr) (sLen sCap : Nat) (olds : List Value) (hlo : olds.length = sLen * i.size) (holds : sLen = 0 ∨ ∃ ad, b = some ad ∧ ∀ (j : Nat) (v : Value), olds[j]? = some v → w.cell? (ad.add j) = some v)
    (ax : Option Addr) (m c : Nat) (news : List Value) (hl : news.length = m * i.size) (hnews : m = 0 ∨ ∃ ad, ax = some ad ∧ ∀ (j : Nat) (v : Value), news[j]? = some v → w.cell? (ad.add j) = some v)
    (hg : sCap < sLen + m) (h63 : ((sLen + m : Nat) : Int) ≤ 9223372036854775807) (hfit : Builtin.nextslicecap (sLen + m) sCap * i.bytes ≤ 281474976710656) :
    (Builtin.append_ #[t, t] ty #[.slice b sLen sCap, .slice ax m c]).run P w =
      .ok (.slice (some ⟨w.heap.size, 0, none⟩) (sLen + m) (grownCap w (sLen + m) sCap e))
        (w.drew.alloc (.cells (olds.toArray ++ news.toArray ++ Builtin.zeroCells z.cells (grownCap w (sLen + m) sCap e - (sLen + m))) e)) := by
  have hn : ¬ (sLen + m ≤ sCap) := by omega
  have h63' : ¬ (9223372036854775807 < ((sLen : Int) + (m : Int))) := by omega
  have h48' : ¬ (281474976710656 < Builtin.nextslicecap (sLen + m) sCap * i.bytes) := by omega
  have hf := run_firstCells_rep (P := P) w.drew i.size m ax c news hl (by simpa using hnews)
  have hfo : (Builtin.firstCells i.size sLen (.slice b sLen sCap)).run P w.drew = .ok olds.toArray w.drew := by
    rcases holds with rfl | ⟨ad, rfl, h⟩
    · have : olds = [] := List.eq_nil_of_length_eq_zero (by simpa using hlo)
      subst this
      cases b with
      | none => simp [Builtin.firstCells]
      | some ad => exact run_firstCells_some (P := P) w.drew i.size 0 ad 0 sCap [] (by simp) (by simp)
    · exact run_firstCells_some (P := P) w.drew i.size sLen ad sLen sCap olds hlo (by simpa using h)
  simp [Builtin.append_, run_underlying ht, sizeOf, typeInfo, zeroValue, hi, hz, Builtin.lenOf, hn, h63', h48', Question.forced, hf, hfo, newRow, grownCap]
  congr 2
  apply Array.ext'
  simp [List.append_assoc]

theorem run_append_room' (t ty e : TypeId) (i : TypeInfo) (ht : P.underlying t = some (.slice e)) (hi : P.info? e = some i)
    (g sLen sCap : Nat) (cur : Array Value) (T : TypeId) (hg : w.heap[g]? = some (.cells cur T (0, 0)))
    (ax : Option Addr) (m c : Nat) (news : List Value) (hl : news.length = m * i.size) (hnews : m = 0 ∨ ∃ ad, ax = some ad ∧ ∀ (j : Nat) (v : Value), news[j]? = some v → w.cell? (ad.add j) = some v)
    (h1 : ∀ u ∈ news, u.oneCell' = true)
    (hroom : sLen + m ≤ sCap) (hfit : sLen * i.size + news.length ≤ cur.size) :
    (Builtin.append_ #[t, t] ty #[.slice (some ⟨g, 0, none⟩) sLen sCap, .slice ax m c]).run P w =
      .ok (.slice (some ⟨g, 0, none⟩) (sLen + m) sCap) (w.setRow g (cur.toList.take (sLen * i.size) ++ news ++ cur.toList.drop (sLen * i.size + news.length)).toArray) := by
  have hf := run_firstCells_rep (P := P) w i.size m ax c news hl hnews
  have hst := run_storeCells_at P g (sLen * i.size) T news 0 cur w hg (by simpa using hfit) h1
  simp only [Nat.add_zero] at hst
  simp [Builtin.append_, run_underlying ht, sizeOf, typeInfo, hi, Builtin.lenOf, hroom, hf, Addr.add_lit, hst]

theorem run_append_none (t ty e : TypeId) (i : TypeInfo) (ht : P.underlying t = some (.slice e)) (hi : P.info? e = some i)
    (b : Option Addr) (sCap : Nat) (ax : Option Addr) (c : Nat) :
    (Builtin.append_ #[t, t] ty #[.slice b 0 sCap, .slice ax 0 c]).run P w = .ok (.slice b 0 sCap) w := by
  have hf := run_firstCells_rep (P := P) w i.size 0 ax c [] (by simp) (.inl rfl)
  cases b <;> simp [Builtin.append_, run_underlying ht, sizeOf, typeInfo, hi, Builtin.lenOf, hf, storeCells]
end
end Go.AX
set_option linter.unusedVariables false
set_option linter.unusedSimpArgs false
namespace Go.AX

inductive TK where
  | int (k : IntKind) | bool | str | struct (fs : List (Nat × Nat)) | slice (e : Nat) | ptr (e : Nat) | array (n e : Nat) | fn | other
  deriving Inhabited, DecidableEq

structure TI where
  k : TK
  size : Nat
  bytes : Nat
  zero : List AV
  deriving Inhabited

def zv : Value → AV
  | .int k n => if k.min ≤ n ∧ n ≤ k.max then .d (.int k n) else .any
  | .bool b => .d (.bool b)
  | .string s => if s.data.toList.length ≤ LB then .d (.str s.data.toList) else .any
  | .slice none 0 0 => .nils
  | .pointer none => .nilp
  | _ => .any

def tk (P : Program) (t : Nat) : TK :=
  match P.underlying t with
  | some (.int k) => .int k
  | some .bool => .bool
  | some .string => .str
  | some (.struct fs) => .struct (fs.toList.map fun f => (f.offset, f.type))
  | some (.slice e) => .slice e
  | some (.pointer e) => .ptr e
  | some (.array n e) => .array n e
  | some (.func _ _ _) => .fn
  | _ => .other

def mkTI (P : Program) (t : Nat) : TI :=
  match P.info? t with
  | none => ⟨.other, 0, 0, []⟩
  | some i => ⟨tk P t, i.size, i.bytes, match i.zero with | some z => z.cells.toList.map zv | none => []⟩

theorem tk_of {P : Program} {t : Nat} {k : TK} (h : (mkTI P t).k = k) (hk : k ≠ .other) : tk P t = k := by
  unfold mkTI at h
  split at h
  · exact absurd h.symm hk
  · exact h

theorem und_slice {P : Program} {t e : Nat} (h : (mkTI P t).k = .slice e) : P.underlying t = some (.slice e) := by
  have := tk_of h (by simp)
  unfold tk at this
  split at this <;> simp_all

theorem und_str {P : Program} {t : Nat} (h : (mkTI P t).k = .str) : P.underlying t = some .string := by
  have := tk_of h (by simp)
  unfold tk at this
  split at this <;> simp_all

theorem und_int {P : Program} {t : Nat} {k : IntKind} (h : (mkTI P t).k = .int k) : P.underlying t = some (.int k) := by
  have := tk_of h (by simp)
  unfold tk at this
  split at this <;> simp_all

theorem und_bool {P : Program} {t : Nat} (h : (mkTI P t).k = .bool) : P.underlying t = some .bool := by
  have := tk_of h (by simp)
  unfold tk at this
  split at this <;> simp_all

theorem und_struct {P : Program} {t : Nat} {fs : List (Nat × Nat)} (h : (mkTI P t).k = .struct fs) :
    ∃ gs, P.underlying t = some (.struct gs) ∧ fs = gs.toList.map fun f => (f.offset, f.type) := by
  have := tk_of h (by simp)
  unfold tk at this
  split at this <;> simp_all

theorem und_array {P : Program} {t n e : Nat} (h : (mkTI P t).k = .array n e) : P.underlying t = some (.array n e) := by
  have := tk_of h (by simp)
  unfold tk at this
  split at this <;> simp_all

theorem info_of {P : Program} {t : Nat} (h : (mkTI P t).size ≠ 0) : ∃ i, P.info? t = some i ∧ i.size = (mkTI P t).size ∧ i.bytes = (mkTI P t).bytes ∧
    (mkTI P t).zero = (match i.zero with | some z => z.cells.toList.map zv | none => []) := by
  unfold mkTI at h ⊢
  split at h
  · simp at h
  · rename_i i hi
    exact ⟨i, hi, rfl, rfl, rfl⟩

def TI.isAgg (t : TI) : Bool := match t.k with | .struct _ => true | .array _ _ => true | _ => false

theorem run_isAgg {P : Program} {t : Nat} (h : (mkTI P t).k ≠ .other) (w : World) : (Go.isAgg t).run P w = .ok (mkTI P t).isAgg w := by
  have hk := tk_of (P := P) (t := t) rfl h
  unfold Go.isAgg TI.isAgg
  rw [← hk]
  rw [← hk] at h
  unfold tk at h ⊢
  cases hu : P.underlying t with
  | none => simp [hu] at h
  | some d => cases d <;> simp [hu, run_underlying hu] at h ⊢

theorem run_sizeOf {P : Program} {t : Nat} (h : (mkTI P t).size ≠ 0) (w : World) : (Go.sizeOf t).run P w = .ok (mkTI P t).size w := by
  obtain ⟨i, hi, hs, _⟩ := info_of h
  simp [Go.sizeOf, typeInfo, hi, hs]

theorem zv_rep {w A β H} (v : Value) : RepV w A β H (zv v) v := by
  unfold zv
  split
  · split
    · rename_i h; simp only [RepV, RepD]; exact ⟨by first | rfl | trivial, trivial⟩
    · simp only [RepV]
  · simp only [RepV, RepD]
  · split
    · rename_i s h; simp only [RepV, RepD]; exact ⟨by simp, trivial⟩
    · simp only [RepV]
  · simp only [RepV]; exact ⟨_, rfl⟩
  · simp only [RepV]
  · simp only [RepV]

def evalA (E : EF) : Operand → AV
  | .tmp t => E t
  | .const v => zv v
  | .global _ => .any
  | .func f => .fn f []

theorem CfgF.eval {n A β E H a w} (h : CfgF n A β E H a w) (x : Operand) : RepV w A β H (evalA E x) (a.eval x) := by
  cases x with
  | tmp t => exact h.env t
  | const v => exact zv_rep v
  | global g => simp only [evalA, RepV]
  | func f => simp only [evalA, RepV, Act.eval]; exact ⟨#[], rfl, by simp [RepVs]⟩

abbrev HL := List (Nat × Option AObj)
def updF (H : HF) : HL → HF
  | [] => H
  | (j, o) :: r => fun i => if i = j then o else updF H r i

/-- What one operation does, on whatever world fits. -/
def OSem (P : Program) (n : Nat) (o : Oper) (E : EF) (H : HF) (r : AV) (u : HL) : Prop :=
  ∀ A β a w, CfgF n A β E H a w → o.wp P a w (fun a' w' => ∃ A' β', CfgF n A' β' (putE E o.dst r) (updF H u) a' w' ∧ Trans w A β H w' A' β' (updF H u)) (fun _ _ _ => False)

theorem OSem.pure {P n o E H r} (hd : ∀ d, o.dst = some d → d < n)
    (h : ∀ A β a w, CfgF n A β E H a w → ∃ v, (execOp a.eval o).run P w = .ok (.value v) w ∧ RepV w A β H r v) : OSem P n o E H r [] := by
  intro A β a w hc
  obtain ⟨v, hv, hr⟩ := h A β a w hc
  simp only [Oper.wp, hv, Oper.upon]
  exact ⟨A, β, hc.put hd hr, Trans.refl _ _ _ _⟩

structure Out where
  pre : Prop
  res : AV
  upd : HL

def fail : Out := ⟨False, .any, []⟩
def ok (r : AV) : Out := ⟨True, r, []⟩

def aPick (c a b : AV) : Out := match c with | .d (.bool t) => ⟨True, (bif t then a else b), []⟩ | _ => fail

theorem sem_move {P n d x t p e g E H} (hd : ∀ i, d = some i → i < n) : OSem P n ⟨d, .move x, t, p, e, g⟩ E H (evalA E x) [] :=
  OSem.pure hd fun A β a w h => ⟨a.eval x, by simp [execOp], h.eval x⟩
theorem sem_assign {P n d x t p e g E H} (hd : ∀ i, d = some i → i < n) : OSem P n ⟨d, .assign x, t, p, e, g⟩ E H (evalA E x) [] :=
  OSem.pure hd fun A β a w h => ⟨a.eval x, by simp [execOp], h.eval x⟩
theorem sem_pick {P n d c x y t p e g E H} (hd : ∀ i, d = some i → i < n) (h : (aPick (evalA E c) (evalA E x) (evalA E y)).pre) :
    OSem P n ⟨d, .pick c x y, t, p, e, g⟩ E H (aPick (evalA E c) (evalA E x) (evalA E y)).res [] :=
  OSem.pure hd fun A β a w hc => by
    have h1 := hc.eval c
    have h2 := hc.eval x
    have h3 := hc.eval y
    unfold aPick at h ⊢
    split at h
    · rename_i b hb
      rw [hb] at h1
      simp only [RepV, RepD] at h1
      simp only [execOp, h1, asBool, Sem.run_bind, Sem.run_pure, Result.andThen_ok]
      cases b <;> simp [h2, h3]
    · exact h.elim

def flatK (P : Program) (t : Nat) : Nat := match P.underlying t with | some (.int _) => 0 | some .string => 1 | some .bool => 2 | _ => 9
def fldsOk (P : Program) : Nat → List Field → List Nat → Bool
  | _, [], [] => true
  | i, f :: r, k :: ks => f.name != "_" && (f.offset == i && (flatK P f.type == k && (decide (k < 3) && fldsOk P (i + 1) r ks)))
  | _, _, _ => false
def isStruct (P : Program) (t : Nat) : Bool := match P.underlying t with | some (.struct _) => true | _ => false
/-- A struct type of plain fields of these kinds that may be compared. -/
def eqFlat (P : Program) (t : Nat) (ks : List Nat) : Bool := isStruct P t && (fldsOk P 0 (P.fieldsOf t).toList ks && (!P.stoodInHeld t && !P.eqGuardType P.depth t))
def AV.kd : AV → Nat
  | .d (.int _ _) => 0
  | .d (.str _) => 1
  | .d (.bool _) => 2
  | _ => 9
def cellsEq : List AV → List AV → Bool
  | .d (.int _ a) :: xs, .d (.int _ b) :: ys => decide (a = b) && cellsEq xs ys
  | .d (.str a) :: xs, .d (.str b) :: ys => decide (a = b) && cellsEq xs ys
  | .d (.bool a) :: xs, .d (.bool b) :: ys => (a == b) && cellsEq xs ys
  | _, _ => true
def cellsP : List AV → List AV → Prop
  | .d (.int k _) :: xs, .d (.int k' _) :: ys => k = k' ∧ cellsP xs ys
  | .d (.str _) :: xs, .d (.str _) :: ys => cellsP xs ys
  | .d (.bool _) :: xs, .d (.bool _) :: ys => cellsP xs ys
  | [], [] => True
  | _, _ => False

def aBin (P : Program) (op : BinOp) (t : Nat) (x y : AV) : Out :=
  match x, y with
  | .d (.int k a), .d (.int k' b) =>
    match op with
    | .add => ⟨k = k', .d (.int k (k.wrap (a + b))), []⟩
    | .sub => ⟨k = k', .d (.int k (k.wrap (a - b))), []⟩
    | .mul => ⟨k = k', .d (.int k (k.wrap (a * b))), []⟩
    | .quo => ⟨k = k' ∧ b ≠ 0, .d (.int k (k.wrap (a.tdiv b))), []⟩
    | .rem => ⟨k = k' ∧ b ≠ 0, .d (.int k (a.tmod b)), []⟩
    | .and => ⟨k = k', .d (.int k (Go.bits .and k a b)), []⟩
    | .or => ⟨k = k', .d (.int k (Go.bits .or k a b)), []⟩
    | .xor => ⟨k = k', .d (.int k (Go.bits .xor k a b)), []⟩
    | .andNot => ⟨k = k', .d (.int k (Go.bits .andNot k a b)), []⟩
    | .shl => ⟨0 ≤ b, .d (.int k (k.wrap (a * 2 ^ (min b.toNat k.bits)))), []⟩
    | .shr => ⟨0 ≤ b, .d (.int k (a / 2 ^ (min b.toNat k.bits))), []⟩
    | .eql => ⟨k = k', .d (.bool (decide (a = b))), []⟩
    | .neq => ⟨k = k', .d (.bool (decide (a ≠ b))), []⟩
    | .lss => ⟨k = k', .d (.bool (decide (a < b))), []⟩
    | .leq => ⟨k = k', .d (.bool (decide (a ≤ b))), []⟩
    | .gtr => ⟨k = k', .d (.bool (decide (a > b))), []⟩
    | .geq => ⟨k = k', .d (.bool (decide (a ≥ b))), []⟩
  | .d (.str a), .d (.str b) =>
    match op with
    | .add => ⟨a.length + b.length ≤ LB, .d (.str (a ++ b)), []⟩
    | .eql => ⟨True, .d (.bool (decide (a = b))), []⟩
    | .neq => ⟨True, .d (.bool (decide (a ≠ b))), []⟩
    | .lss => ⟨True, .d (.bool (Op.bytesLess a b)), []⟩
    | .leq => ⟨True, .d (.bool (Op.bytesLess a b || decide (a = b))), []⟩
    | .gtr => ⟨True, .d (.bool (!(Op.bytesLess a b || decide (a = b)))), []⟩
    | .geq => ⟨True, .d (.bool (!Op.bytesLess a b)), []⟩
    | _ => fail
  | .d (.bool a), .d (.bool b) =>
    match op with
    | .eql => ⟨(mkTI P t).k = .bool, .d (.bool (a == b)), []⟩
    | .neq => ⟨(mkTI P t).k = .bool, .d (.bool (!(a == b))), []⟩
    | _ => fail
  | .agg xs, .agg ys =>
    match op with
    | .eql => ⟨eqFlat P t (xs.map AV.kd) = true ∧ cellsP xs ys, .d (.bool (cellsEq xs ys)), []⟩
    | .neq => ⟨eqFlat P t (xs.map AV.kd) = true ∧ cellsP xs ys, .d (.bool (!cellsEq xs ys)), []⟩
    | _ => fail
  | _, _ => fail

theorem wrap_fits (k : IntKind) (n : Int) : fits k (k.wrap n) := by
  trivial

theorem two_pow_pos' (n : Nat) : (0 : Int) < 2 ^ n := Int.pow_pos (by decide)

theorem tmod_fits {k : IntKind} {a b : Int} (h : fits k a) : fits k (a.tmod b) := by
  unfold fits at *
  have h1 : k.min ≤ 0 := by cases k <;> decide
  have h2 : 0 ≤ k.max := by cases k <;> decide
  have h3 : (a.tmod b).natAbs ≤ a.natAbs := by rw [Int.natAbs_tmod]; exact Nat.mod_le _ _
  rcases Int.le_total 0 a with h0 | h0
  · have := Int.tmod_nonneg b h0
    omega
  · have h4 : a.tmod b = -((-a).tmod b) := by rw [Int.neg_tmod]; omega
    have := Int.tmod_nonneg b (show 0 ≤ -a by omega)
    omega

theorem ediv_fits {k : IntKind} {a : Int} (n : Nat) (h : fits k a) : fits k (a / 2 ^ n) := by
  unfold fits at *
  have h1 : k.min ≤ 0 := by cases k <;> decide
  have h2 : 0 ≤ k.max := by cases k <;> decide
  have hp := two_pow_pos' n
  rcases Int.le_total 0 a with h0 | h0
  · have := Int.ediv_nonneg h0 (Int.le_of_lt hp)
    have := Int.ediv_le_self (2 ^ n : Int) h0
    omega
  · have h3 : a / 2 ^ n ≤ 0 := Int.ediv_nonpos_of_nonpos_of_neg h0 (by omega) |> fun h => by omega
    have h4 : a ≤ a / 2 ^ n := by
      rw [Int.le_ediv_iff_mul_le hp]
      have : (1 : Int) ≤ 2 ^ n := by omega
      have := Int.mul_le_mul_of_nonpos_left h0 this
      omega
    omega

theorem bits_fits (op : BinOp) (k : IntKind) (a b : Int) : fits k (Go.bits op k a b) := by
  unfold Go.bits
  split <;> first | exact wrap_fits _ _ | skip

theorem run_binOp_op {P : Program} {ρ : Operand → Value} {w : World} {d op t x y ty tr p e g} {vx vy v : Value} (hx : ρ x = vx) (hy : ρ y = vy)
    (hg : eqGuard op t x y vx vy = pure ()) (h : (binOp op t vx vy).run P w = .ok v w) :
    (execOp ρ ⟨d, .binOp op t x y ty, tr, p, e, g⟩).run P w = .ok (.value v) w := by
  simp [execOp, hx, hy, hg, h]

theorem beq_dec {α : Type} [BEq α] [LawfulBEq α] [DecidableEq α] (a b : α) : (a == b) = decide (a = b) := by
  rw [Bool.eq_iff_iff]; simp
theorem bne_dec {α : Type} [BEq α] [LawfulBEq α] [DecidableEq α] (a b : α) : (a != b) = decide (a ≠ b) := by
  rw [Bool.eq_iff_iff]; simp

theorem run_equalIn_bool {P : Program} {w : World} {t : Nat} (h : P.underlying t = some .bool) (d : Nat) (a b : Bool) : (Op.equalIn (d + 1) t (.bool a) (.bool b)).run P w = .ok (a == b) w := by
  simp [Op.equalIn, run_underlying h]

theorem aBin_int {P : Program} {w A β H} {op : BinOp} {t k k' a b} (h : (aBin P op t (.d (.int k a)) (.d (.int k' b))).pre) (ha : fits k a) (hb : fits k' b) :
    ∃ v, (binOp op t (.int k a) (.int k' b)).run P w = .ok v w ∧ RepV w A β H (aBin P op t (.d (.int k a)) (.d (.int k' b))).res v := by
  cases op <;> simp only [aBin] at h ⊢
  case add => subst h; exact ⟨_, by rw [binOp_add]; rfl, by simp only [RepV, RepD, true_and]; exact wrap_fits _ _⟩
  case sub => subst h; exact ⟨_, by rw [binOp_sub]; rfl, by simp only [RepV, RepD, true_and]; exact wrap_fits _ _⟩
  case mul => subst h; exact ⟨_, by rw [binOp_mul]; rfl, by simp only [RepV, RepD, true_and]; exact wrap_fits _ _⟩
  case quo => obtain ⟨rfl, hb0⟩ := h; exact ⟨_, by rw [binOp_quo]; simp [Op.intDiv, hb0]; rfl, by simp only [RepV, RepD, true_and]; exact wrap_fits _ _⟩
  case rem => obtain ⟨rfl, hb0⟩ := h; exact ⟨_, by rw [binOp_rem]; simp [Op.intDiv, hb0]; rfl, by simp only [RepV, RepD, true_and]; exact tmod_fits ha⟩
  case and => subst h; exact ⟨_, by rw [binOp_and, intBits_and]; rfl, by simp only [RepV, RepD, true_and]; exact bits_fits _ _ _ _⟩
  case or => subst h; exact ⟨_, by rw [binOp_or, intBits_or]; rfl, by simp only [RepV, RepD, true_and]; exact bits_fits _ _ _ _⟩
  case xor => subst h; exact ⟨_, by rw [binOp_xor, intBits_xor]; rfl, by simp only [RepV, RepD, true_and]; exact bits_fits _ _ _ _⟩
  case andNot => subst h; exact ⟨_, by rw [binOp_andNot, intBits_andNot]; rfl, by simp only [RepV, RepD, true_and]; exact bits_fits _ _ _ _⟩
  case shl =>
    have h' : ¬ b < 0 := by omega
    exact ⟨_, by rw [binOp_shl]; simp only [Op.shift, h', if_false]; rfl, by simp only [RepV, RepD, true_and]; exact wrap_fits _ _⟩
  case shr =>
    have h' : ¬ b < 0 := by omega
    refine ⟨_, by rw [binOp_shr]; simp only [Op.shift, h', if_false]; rfl, ?_⟩
    simp only [RepV, RepD]
    rw [Int.fdiv_eq_ediv_of_nonneg _ (Int.le_of_lt (two_pow_pos' _))]
    exact ⟨rfl, ediv_fits _ ha⟩
  case eql => subst h; exact ⟨_, by rw [binOp_eql]; rfl, by simp only [RepV, RepD, beq_dec]⟩
  case neq => subst h; exact ⟨_, by rw [binOp_neq]; rfl, by simp only [RepV, RepD, bne_dec]⟩
  case lss => subst h; exact ⟨_, by rw [binOp_lss]; rfl, by simp only [RepV, RepD]⟩
  case leq => subst h; exact ⟨_, by rw [binOp_leq]; rfl, by simp only [RepV, RepD]⟩
  case gtr => subst h; exact ⟨_, by rw [binOp_gtr]; rfl, by simp only [RepV, RepD]⟩
  case geq => subst h; exact ⟨_, by rw [binOp_geq]; rfl, by simp only [RepV, RepD]⟩

theorem mk_toList (l : List UInt8) : (⟨l.toArray⟩ : ByteArray).toList = l := by rw [Go.ByteArray.toList_eq]

theorem mk_size (l : List UInt8) : (⟨l.toArray⟩ : ByteArray).size = l.length := by simp [ByteArray.size]

theorem aBin_str {P : Program} {w A β H} {op : BinOp} {t a b} (h : (aBin P op t (.d (.str a)) (.d (.str b))).pre) :
    ∃ v, (binOp op t (.string ⟨a.toArray⟩) (.string ⟨b.toArray⟩)).run P w = .ok v w ∧ RepV w A β H (aBin P op t (.d (.str a)) (.d (.str b))).res v := by
  cases op <;> simp only [aBin, fail] at h ⊢
  case add =>
    have h1 : ¬ ((a.length + b.length : Nat) : Int) > IntKind.i64.max := by simp only [IntKind.max_i64, LB] at *; omega
    refine ⟨.string (⟨a.toArray⟩ ++ ⟨b.toArray⟩), by simp only [binOp, Op.stringOp, mk_size, h1, if_false]; rfl, ?_⟩
    simp only [RepV, RepD]
    refine ⟨?_, trivial⟩
    first | rfl | (congr 1; done) | (congr 1; apply ByteArray.ext; simp)
  all_goals (refine ⟨_, by simp only [binOp, Op.stringOp, mk_toList]; rfl, ?_⟩; simp only [RepV, RepD, beq_dec])
  simp

theorem aBin_bool {P : Program} {w A β H} {op : BinOp} {t a b} (h : (aBin P op t (.d (.bool a)) (.d (.bool b))).pre) :
    ∃ v, (binOp op t (.bool a) (.bool b)).run P w = .ok v w ∧ RepV w A β H (aBin P op t (.d (.bool a)) (.d (.bool b))).res v := by
  have e : ∀ h : P.underlying t = some .bool, (Op.equal t (.bool a) (.bool b)).run P w = .ok (a == b) w := fun h => run_equalIn_bool h 9999 a b
  cases op <;> simp only [aBin, fail] at h ⊢
  · exact ⟨.bool (a == b), by simp only [binOp, Sem.run_bind, e (und_bool h), Result.andThen_ok, Sem.run_pure], by simp only [RepV, RepD]⟩
  · exact ⟨.bool (!(a == b)), by simp only [binOp, Sem.run_bind, e (und_bool h), Result.andThen_ok, Sem.run_pure], by simp only [RepV, RepD]⟩

theorem flat_und {P : Program} {t k : Nat} (h : flatK P t = k) (hk : k < 3) : (k = 0 ∧ ∃ i, P.underlying t = some (.int i)) ∨ (k = 1 ∧ P.underlying t = some .string) ∨ (k = 2 ∧ P.underlying t = some .bool) := by
  unfold flatK at h
  split at h
  · exact .inl ⟨h.symm, _, ‹_›⟩
  · exact .inr (.inl ⟨h.symm, ‹_›⟩)
  · exact .inr (.inr ⟨h.symm, ‹_›⟩)
  · omega
theorem flat_isAgg {P : Program} {t k : Nat} (h : flatK P t = k) (hk : k < 3) (w : World) : (Go.isAgg t).run P w = .ok false w := by
  unfold Go.isAgg
  rcases flat_und h hk with ⟨_, i, hu⟩ | ⟨_, hu⟩ | ⟨_, hu⟩ <;> simp [run_underlying hu]
theorem flat_part {P : Program} {t k : Nat} (h : flatK P t = k) (hk : k < 3) {cs : Array Value} {i : Nat} {v : Value} (hv : cs[i]? = some v) (w : World) : (part t cs i).run P w = .ok v w := by
  simp only [part, Sem.run_bind, flat_isAgg h hk w, Result.andThen_ok, Bool.false_eq_true, if_false, hv, Sem.run_pure]
theorem drop_cons {vx : Array Value} {i : Nat} {v : Value} {r : List Value} (h : vx.toList.drop i = v :: r) : vx[i]? = some v ∧ vx.toList.drop (i + 1) = r := by
  constructor
  · have := congrArg (·[0]?) h
    simpa using this
  · have := congrArg List.tail h
    simpa [List.tail_drop] using this
theorem eqFields_run {P : Program} {w : World} {A : Nat → Prop} {β : BF} {H : HF} (d : Nat) (vx vy : Array Value) : ∀ (fs : List Field) (i : Nat) (xs ys : List AV), fldsOk P i fs (xs.map AV.kd) = true → cellsP xs ys →
    RepVs w A β H xs (vx.toList.drop i) → RepVs w A β H ys (vy.toList.drop i) → (Op.eqFields (d + 1) vx vy fs).run P w = .ok (cellsEq xs ys) w
  | [], i, [], [], _, _, _, _ => by simp [Op.eqFields, cellsEq]
  | [], i, x :: xs, ys, h, _, _, _ => by simp [fldsOk] at h
  | [], i, [], y :: ys, _, h, _, _ => by simp [cellsP] at h
  | f :: fs, i, [], ys, h, _, _, _ => by simp [fldsOk] at h
  | f :: fs, i, x :: xs, ys, h, hp, hx, hy => by
    simp only [List.map_cons, fldsOk, Bool.and_eq_true, bne_iff_ne, ne_eq, beq_iff_eq, decide_eq_true_eq] at h
    obtain ⟨hn, ho, hk, hk3, hr⟩ := h
    simp only [RepVs] at hx
    obtain ⟨v, vr, hv, hxv, hxr⟩ := hx
    obtain ⟨hv1, hv2⟩ := drop_cons hv
    cases ys with
    | nil => cases x <;> simp only [cellsP] at hp
    | cons y ys =>
      simp only [RepVs] at hy
      obtain ⟨u, ur, hu, hyu, hyr⟩ := hy
      obtain ⟨hu1, hu2⟩ := drop_cons hu
      have step : ∀ b : Bool, (Op.equalIn (d + 1) f.type v u).run P w = .ok b w → (b = true → (Op.eqFields (d + 1) vx vy fs).run P w = .ok (cellsEq xs ys) w) →
          (Op.eqFields (d + 1) vx vy (f :: fs)).run P w = .ok (b && cellsEq xs ys) w := fun b hb hr => by
        simp only [Op.eqFields, ne_eq, hn, not_false_eq_true, if_true, Sem.run_bind]
        rw [flat_part hk hk3 (by rw [ho]; exact hv1), Result.andThen_ok, flat_part hk hk3 (by rw [ho]; exact hu1), Result.andThen_ok, hb, Result.andThen_ok]
        cases b with
        | false => simp
        | true => simpa using hr rfl
      have rest : cellsP xs ys → (Op.eqFields (d + 1) vx vy fs).run P w = .ok (cellsEq xs ys) w := fun hp' =>
        eqFields_run d vx vy fs (i + 1) xs ys hr hp' (by rw [hv2]; exact hxr) (by rw [hu2]; exact hyr)
      cases x with
      | d z =>
        cases z with
        | int k a =>
          cases y with
          | d z' =>
            cases z' with
            | int k' b =>
              simp only [cellsP] at hp
              obtain ⟨rfl, hp⟩ := hp
              simp only [RepV, RepD] at hxv hyu
              obtain ⟨rfl, _⟩ := hxv
              obtain ⟨rfl, _⟩ := hyu
              rcases flat_und hk hk3 with ⟨_, j, hj⟩ | ⟨e, _⟩ | ⟨e, _⟩
              · have := step (a == b) (run_equalIn_int w d f.type k j a b hj) (fun _ => rest hp)
                simpa only [cellsEq, beq_dec] using this
              · cases e
              · cases e
            | _ => simp only [cellsP] at hp
          | _ => simp only [cellsP] at hp
        | str a =>
          cases y with
          | d z' =>
            cases z' with
            | str b =>
              simp only [cellsP] at hp
              simp only [RepV, RepD] at hxv hyu
              obtain ⟨rfl, _⟩ := hxv
              obtain ⟨rfl, _⟩ := hyu
              rcases flat_und hk hk3 with ⟨e, _⟩ | ⟨_, hj⟩ | ⟨e, _⟩
              · cases e
              · have := step (a == b) (by rw [run_equalIn_string w d f.type _ _ hj, mk_toList, mk_toList]) (fun _ => rest hp)
                simpa only [cellsEq, beq_dec] using this
              · cases e
            | _ => simp only [cellsP] at hp
          | _ => simp only [cellsP] at hp
        | bool a =>
          cases y with
          | d z' =>
            cases z' with
            | bool b =>
              simp only [cellsP] at hp
              simp only [RepV, RepD] at hxv hyu
              subst hxv hyu
              rcases flat_und hk hk3 with ⟨e, _⟩ | ⟨e, _⟩ | ⟨_, hj⟩
              · cases e
              · cases e
              · have := step (a == b) (run_equalIn_bool hj d _ _) (fun _ => rest hp)
                simpa only [cellsEq] using this
            | _ => simp only [cellsP] at hp
          | _ => simp only [cellsP] at hp
        | sl es => cases y <;> simp only [cellsP] at hp
      | _ => simp only [cellsP] at hp
theorem aBin_agg {P : Program} {w A β H} {op : BinOp} {t : Nat} {xs ys : List AV} {vx vy : Array Value} (h : (aBin P op t (.agg xs) (.agg ys)).pre) (hx : RepVs w A β H xs vx.toList) (hy : RepVs w A β H ys vy.toList) :
    P.eqGuardType P.depth t = false ∧ ∃ v, (binOp op t (.agg vx) (.agg vy)).run P w = .ok v w ∧ RepV w A β H (aBin P op t (.agg xs) (.agg ys)).res v := by
  have key : eqFlat P t (xs.map AV.kd) = true → cellsP xs ys → P.eqGuardType P.depth t = false ∧ (Op.equalIn 10000 t (.agg vx) (.agg vy)).run P w = .ok (cellsEq xs ys) w := fun h1 h2 => by
    simp only [eqFlat, Bool.and_eq_true, Bool.not_eq_true'] at h1
    obtain ⟨g1, g2, g3, g4⟩ := h1
    refine ⟨g4, ?_⟩
    have hu : P.underlying t = some (.struct (P.fieldsOf t)) := by
      unfold isStruct at g1
      unfold Program.fieldsOf
      split at g1
      · rename_i fs hfs; rw [hfs]
      · cases g1
    rw [run_equalIn_struct w 9999 t vx vy hu g3]
    exact eqFields_run 9998 vx vy _ 0 xs ys g2 h2 (by simpa using hx) (by simpa using hy)
  cases op <;> simp only [aBin, fail] at h ⊢
  · obtain ⟨k1, k2⟩ := key h.1 h.2
    exact ⟨k1, _, by rw [run_eql_struct w, k2, Result.andThen_ok], by simp only [RepV, RepD]⟩
  · obtain ⟨k1, k2⟩ := key h.1 h.2
    exact ⟨k1, _, by rw [run_neq_struct w, k2, Result.andThen_ok], by simp only [RepV, RepD]⟩
theorem run_binOp_op' {P : Program} {ρ : Operand → Value} {w : World} {d op t x y ty tr p e g} {vx vy v : Value} (hx : ρ x = vx) (hy : ρ y = vy)
    (hg : (eqGuard op t x y vx vy).run P w = .ok () w) (h : (binOp op t vx vy).run P w = .ok v w) :
    (execOp ρ ⟨d, .binOp op t x y ty, tr, p, e, g⟩).run P w = .ok (.value v) w := by
  simp [execOp, hx, hy, hg, h]

theorem sem_bin {P n d op t x y ty tr p e g E H} (hd : ∀ i, d = some i → i < n) (h : (aBin P op t (evalA E x) (evalA E y)).pre) :
    OSem P n ⟨d, .binOp op t x y ty, tr, p, e, g⟩ E H (aBin P op t (evalA E x) (evalA E y)).res [] :=
  OSem.pure hd fun A β a w hc => by
    have h2 := hc.eval x
    have h3 := hc.eval y
    generalize evalA E x = X at *
    generalize evalA E y = Y at *
    have key : (∃ k a k' b, X = .d (.int k a) ∧ Y = .d (.int k' b)) ∨ (∃ a b, X = .d (.str a) ∧ Y = .d (.str b)) ∨ (∃ a b, X = .d (.bool a) ∧ Y = .d (.bool b)) ∨ (∃ a b, X = .agg a ∧ Y = .agg b) := by
      unfold aBin at h
      split at h
      · exact .inl ⟨_, _, _, _, rfl, rfl⟩
      · exact .inr (.inl ⟨_, _, rfl, rfl⟩)
      · exact .inr (.inr (.inl ⟨_, _, rfl, rfl⟩))
      · exact .inr (.inr (.inr ⟨_, _, rfl, rfl⟩))
      · exact h.elim
    rcases key with ⟨k, b, k', b', rfl, rfl⟩ | ⟨b, b', rfl, rfl⟩ | ⟨b, b', rfl, rfl⟩ | ⟨b, b', rfl, rfl⟩ <;> simp only [RepV, RepD] at h2 h3
    · obtain ⟨v, h4, h5⟩ := aBin_int (w := w) (A := A) (β := β) (H := H) h h2.2 h3.2
      exact ⟨v, run_binOp_op h2.1 h3.1 (eqGuard_at_int ..) h4, h5⟩
    · obtain ⟨v, h4, h5⟩ := aBin_str (w := w) (A := A) (β := β) (H := H) h
      exact ⟨v, run_binOp_op h2.1 h3.1 (eqGuard_at_string ..) h4, h5⟩
    · obtain ⟨v, h4, h5⟩ := aBin_bool (w := w) (A := A) (β := β) (H := H) h
      exact ⟨v, run_binOp_op h2 h3 (eqGuard_at_bool ..) h4, h5⟩
    · obtain ⟨vx, h2, g2⟩ := h2
      obtain ⟨vy, h3, g3⟩ := h3
      obtain ⟨g4, v, h4, h5⟩ := aBin_agg (w := w) (A := A) (β := β) (H := H) h g2 g3
      exact ⟨v, run_binOp_op' h2 h3 (run_eqGuard_agg w op t x y vx vy g4) h4, h5⟩

def aUn (op : UnOp) (x : AV) : Out :=
  match op, x with
  | .neg, .d (.int k a) => ok (.d (.int k (k.wrap (0 - a))))
  | .not, .d (.bool b) => ok (.d (.bool (!b)))
  | .xor, .d (.int k a) => ok (.d (.int k (Go.bits .xor k (if k.signed then -1 else k.max) a)))
  | _, _ => fail

theorem sem_un {P n d op t x tr p e g E H} (hd : ∀ i, d = some i → i < n) (h : (aUn op (evalA E x)).pre) :
    OSem P n ⟨d, .unOp op t x, tr, p, e, g⟩ E H (aUn op (evalA E x)).res [] :=
  OSem.pure hd fun A β a w hc => by
    have h2 := hc.eval x
    generalize evalA E x = X at *
    unfold aUn at h ⊢
    split at h
    · simp only [RepV, RepD] at h2
      exact ⟨_, by simp only [execOp, h2.1, Op.unary, Op.intArith, Sem.run_bind, Sem.run_pure, Result.andThen_ok]; rfl, by simp only [ok, RepV, RepD, true_and]; exact wrap_fits _ _⟩
    · simp only [RepV, RepD] at h2
      exact ⟨_, by simp only [execOp, h2, Op.unary, Sem.run_bind, Sem.run_pure, Result.andThen_ok]; rfl, by simp only [ok, RepV, RepD]⟩
    · simp only [RepV, RepD] at h2
      exact ⟨_, by simp only [execOp, h2.1, Op.unary, intBits_xor, Sem.run_bind, Sem.run_pure, Result.andThen_ok]; rfl, by simp only [ok, RepV, RepD, true_and]; exact bits_fits _ _ _ _⟩
    · exact h.elim

def aExtract (x : AV) (i : Nat) : Out :=
  match x with
  | .tup vs => match vs[i]? with | some y => ok y | none => fail
  | _ => fail

theorem sem_extract {P n d x i tr p e g E H} (hd : ∀ i, d = some i → i < n) (h : (aExtract (evalA E x) i).pre) :
    OSem P n ⟨d, .extract x i, tr, p, e, g⟩ E H (aExtract (evalA E x) i).res [] :=
  OSem.pure hd fun A β a w hc => by
    have h2 := hc.eval x
    generalize evalA E x = X at *
    unfold aExtract at h ⊢
    split at h
    · rename_i vs
      simp only [RepV] at h2
      obtain ⟨us, e1, hr⟩ := h2
      cases hv : vs[i]? with
      | none => rw [hv] at h; exact h.elim
      | some y =>
        obtain ⟨v, h3, h4⟩ := hr.get i y hv
        refine ⟨v, ?_, by simpa only [hv, ok] using h4⟩
        simp only [execOp, e1, Instr.extract, ← Array.getElem?_toList, h3, Sem.run_bind, Sem.run_pure, Result.andThen_ok]
    · exact h.elim

theorem evalL_rep {n A β E H a w} (h : CfgF n A β E H a w) : ∀ (xs : List Operand), RepVs w A β H (xs.map (evalA E)) (xs.map a.eval)
  | [] => by simp [RepVs]
  | x :: r => by simp only [List.map_cons, RepVs]; exact ⟨_, _, rfl, h.eval x, evalL_rep h r⟩

def aMakeFunc (f : Fn) (first caps : List AV) : Out :=
  match f, first with
  | .func k, [] => ok (.fn k caps)
  | _, _ => fail

theorem sem_makeFunc {P n d f first caps tr p e g E H} (hd : ∀ i, d = some i → i < n) (h : (aMakeFunc f (first.toList.map (evalA E)) (caps.toList.map (evalA E))).pre) :
    OSem P n ⟨d, .makeFunc f first caps, tr, p, e, g⟩ E H (aMakeFunc f (first.toList.map (evalA E)) (caps.toList.map (evalA E))).res [] :=
  OSem.pure hd fun A β a w hc => by
    unfold aMakeFunc at h ⊢
    split at h
    · rename_i k he
      have hf : first = #[] := by
        have : first.toList = [] := by simpa using he
        exact Array.toList_inj.1 (by simpa using this)
      subst hf
      refine ⟨.func (.func k) #[] (caps.map a.eval), by simp [execOp, Instr.makeFunc], ?_⟩
      simp only [ok, RepV]
      exact ⟨_, rfl, by simpa using evalL_rep hc caps.toList⟩
    · exact h.elim

def aConvert (P : Program) (src dst : Nat) (x : AV) : Out :=
  match (mkTI P dst).k, x with
  | .int k, .d (.int _ a) => ⟨(mkTI P src).k ≠ .other, .d (.int k (k.wrap a)), []⟩
  | .str, .d (.str s) => ⟨(mkTI P src).k = .str, .d (.str s), []⟩
  | _, _ => fail

theorem und_some {P : Program} {t : Nat} (h : (mkTI P t).k ≠ .other) : ∃ d, P.underlying t = some d := by
  have := tk_of (P := P) (t := t) rfl h
  cases hu : P.underlying t with
  | none => rw [← this] at h; simp [tk, hu] at h
  | some d => exact ⟨d, rfl⟩

theorem sem_convert {P n d src dst x tr p e g E H} (hd : ∀ i, d = some i → i < n) (h : (aConvert P src dst (evalA E x)).pre) :
    OSem P n ⟨d, .convert src dst x, tr, p, e, g⟩ E H (aConvert P src dst (evalA E x)).res [] :=
  OSem.pure hd fun A β a w hc => by
    have h2 := hc.eval x
    generalize evalA E x = X at *
    unfold aConvert at h ⊢
    split at h
    · rename_i hk
      simp only [RepV, RepD] at h2
      obtain ⟨ds, hs⟩ := und_some h
      refine ⟨_, ?_, by simp only [RepV, RepD, true_and]; exact ⟨rfl, wrap_fits _ _⟩⟩
      simp [execOp, h2.1, Go.convert, run_underlying hs, run_underlying (und_int hk), Conv.intToInt]
    · rename_i hk
      simp only [RepV, RepD] at h2
      refine ⟨_, ?_, by simp only [RepV, RepD]; exact ⟨rfl, h2.2⟩⟩
      simp [execOp, h2.1, Go.convert, run_underlying (und_str h), run_underlying (und_str hk)]
    · exact h.elim

def liveBox : Option AObj → Prop
  | some (.box _) => True
  | _ => False
def liveArr : Option AObj → Nat → Prop
  | some (.arr _ _ es), n => n = es.length
  | _, _ => False
theorem liveBox_of {o : Option AObj} (h : liveBox o) : ∃ cs, o = some (.box cs) := by
  unfold liveBox at h; split at h
  · exact ⟨_, rfl⟩
  · exact h.elim
theorem liveArr_of {o : Option AObj} {n : Nat} (h : liveArr o n) : ∃ T sz es, o = some (.arr T sz es) ∧ n = es.length := by
  unfold liveArr at h; split at h
  · exact ⟨_, _, _, rfl, h⟩
  · exact h.elim

def aNilCheck (x : AV) (H : HF) : Out :=
  match x with
  | .ref cs => ok (.ref cs)
  | .box id o => ⟨liveBox (H id), .box id o, []⟩
  | .fn f c => ok (.fn f c)
  | _ => fail

theorem sem_nilCheck {P n d x tr p e g E H} (hd : ∀ i, d = some i → i < n) (h : (aNilCheck (evalA E x) H).pre) :
    OSem P n ⟨d, .nilCheck x, tr, p, e, g⟩ E H (aNilCheck (evalA E x) H).res [] :=
  OSem.pure hd fun A β a w hc => by
    have h2 := hc.eval x
    generalize evalA E x = X at *
    unfold aNilCheck at h ⊢
    split at h
    · have h3 := h2
      simp only [RepV] at h2
      obtain ⟨b, o, e1, _⟩ := h2
      exact ⟨_, by simp only [execOp, e1, Sem.run_pure]; rfl, by rw [← e1]; exact h3⟩
    · obtain ⟨cs, h⟩ := liveBox_of h
      have h3 := h2
      simp only [RepV, h] at h2
      obtain ⟨b, _, e1⟩ := h2
      exact ⟨_, by simp only [execOp, e1, Sem.run_pure]; rfl, by rw [← e1]; exact h3⟩
    · have h3 := h2
      simp only [RepV] at h2
      obtain ⟨cs, e1, _⟩ := h2
      exact ⟨_, by simp only [execOp, e1, Sem.run_pure]; rfl, by rw [← e1]; exact h3⟩
    · exact h.elim

def aFieldAddr (P : Program) (s : Nat) (x : AV) (f : Nat) (H : HF) : Out :=
  match (mkTI P s).k with
  | .struct fs => match fs[f]? with
    | some (off, ft) => match x with
      | .ref cs => ⟨(mkTI P ft).size ≠ 0, .ref (cs.drop off), []⟩
      | .box id o => ⟨(mkTI P ft).size ≠ 0 ∧ liveBox (H id), .box id (o + off), []⟩
      | .elt id i o m => ⟨(mkTI P ft).size ≠ 0 ∧ liveArr (H id) m, .elt id i (o + off) m, []⟩
      | _ => fail
    | none => fail
  | _ => fail

theorem add_eq (b o n : Nat) : (⟨b, o, none⟩ : Addr).add n = ⟨b, o + n, none⟩ := Addr.add_lit b o n

theorem run_fieldAt {P : Program} {w : World} {s f off ft : Nat} {fs} (h1 : (mkTI P s).k = .struct fs) (h2 : fs[f]? = some (off, ft)) (h3 : (mkTI P ft).size ≠ 0) (b o : Nat) :
    (Instr.fieldAt s (.pointer (some ⟨b, o, none⟩)) f).run P w = .ok (.pointer (some ⟨b, o + off, none⟩)) w := by
  obtain ⟨gs, hu, rfl⟩ := und_struct h1
  simp only [List.getElem?_map, Option.map_eq_some_iff] at h2
  obtain ⟨fl, hf, he⟩ := h2
  cases he
  simp [Instr.fieldAt, run_underlying hu, ← Array.getElem?_toList, hf, Instr.sureAddr, fieldPlace, run_sizeOf h3, h3, add_eq]

end Go.AX
set_option linter.unusedVariables false
set_option linter.unusedSimpArgs false
namespace Go.AX

theorem sem_fieldAddr {P n d s x f tr p e g E H} (hd : ∀ i, d = some i → i < n) (h : (aFieldAddr P s (evalA E x) f H).pre) :
    OSem P n ⟨d, .fieldAddr s x f, tr, p, e, g⟩ E H (aFieldAddr P s (evalA E x) f H).res [] :=
  OSem.pure hd fun A β a w hc => by
    have h2 := hc.eval x
    generalize evalA E x = X at *
    unfold aFieldAddr at h ⊢
    split at h
    rotate_left
    · exact h.elim
    rename_i fs hk
    split at h
    rotate_left
    · exact h.elim
    rename_i off ft hf
    split at h
    · rename_i cs
      simp only [RepV] at h2
      obtain ⟨b, o, e1, hA, hr⟩ := h2
      refine ⟨_, by simp only [execOp, e1, run_fieldAt hk hf h, Sem.run_bind, Sem.run_pure, Result.andThen_ok]; try rfl, ?_⟩
      simp only [RepV]
      exact ⟨b, o + off, rfl, hA, RepCs.drop off hr⟩
    · rename_i id o
      obtain ⟨cs, ho⟩ := liveBox_of h.2
      simp only [RepV, ho] at h2 ⊢
      obtain ⟨b, hb, e1⟩ := h2
      exact ⟨_, by simp only [execOp, e1, run_fieldAt hk hf h.1, Sem.run_bind, Sem.run_pure, Result.andThen_ok]; try rfl, b, hb, rfl⟩
    · rename_i id i o m
      obtain ⟨T, sz, es, ho, hm⟩ := liveArr_of h.2
      simp only [RepV, ho] at h2 ⊢
      obtain ⟨hle, h2⟩ := h2
      obtain ⟨b, hb, e1⟩ := h2 hm.symm
      exact ⟨_, by simp only [execOp, e1, run_fieldAt hk hf h.1, Sem.run_bind, Sem.run_pure, Result.andThen_ok]; try rfl, hle, fun _ => ⟨b, hb, by rw [Nat.add_assoc]⟩⟩
    · exact h.elim

/-- The cells from off on, as a value of a type. -/
def cut (agg : Bool) (off n : Nat) (cs : List AV) : AV := bif agg then .agg ((cs.drop off).take n) else (cs.drop off).headD .any

def aField (P : Program) (s : Nat) (x : AV) (f : Nat) : Out :=
  match (mkTI P s).k with
  | .struct fs => match fs[f]? with
    | some (off, ft) => match x with
      | .agg cs => ⟨(mkTI P ft).size ≠ 0 ∧ (mkTI P ft).k ≠ .other ∧ off < cs.length, cut (mkTI P ft).isAgg off (mkTI P ft).size cs, []⟩
      | _ => fail
    | none => fail
  | _ => fail

theorem cut_rep {w A β H} {cs : List AV} {vs : List Value} (h : RepVs w A β H cs vs) (agg : Bool) (off n : Nat) (hoff : off < cs.length) :
    ∃ v, (if agg then v = .agg ((vs.drop off).take n).toArray else vs[off]? = some v) ∧ RepV w A β H (cut agg off n cs) v := by
  cases agg with
  | true =>
    exact ⟨_, rfl, by simp only [cut, cond_true, RepV]; exact ⟨_, rfl, by simpa using (h.drop off).take n⟩⟩
  | false =>
    obtain ⟨v, h1, h2⟩ := h.get off cs[off] (by simp [hoff])
    refine ⟨v, by simpa using h1, ?_⟩
    simp only [cut, cond_false]
    rw [List.headD_eq_head?_getD, List.head?_drop]
    simpa [hoff] using h2

theorem extract_toList (xs : Array Value) (i j : Nat) : xs.extract i (i + j) = ((xs.toList.drop i).take j).toArray := by
  apply Array.ext'
  simp

theorem sem_field {P n d s x f tr p e g E H} (hd : ∀ i, d = some i → i < n) (h : (aField P s (evalA E x) f).pre) :
    OSem P n ⟨d, .field s x f, tr, p, e, g⟩ E H (aField P s (evalA E x) f).res [] :=
  OSem.pure hd fun A β a w hc => by
    have h2 := hc.eval x
    generalize evalA E x = X at *
    unfold aField at h ⊢
    split at h
    rotate_left
    · exact h.elim
    rename_i fs hk
    split at h
    rotate_left
    · exact h.elim
    rename_i off ft hf
    split at h
    rotate_left
    · exact h.elim
    rename_i cs
    simp only [RepV] at h2
    obtain ⟨vs, e1, hr⟩ := h2
    obtain ⟨v, hv, hrep⟩ := cut_rep hr (mkTI P ft).isAgg off (mkTI P ft).size h.2.2
    refine ⟨v, ?_, hrep⟩
    obtain ⟨gs, hu, rfl⟩ := und_struct hk
    simp only [List.getElem?_map, Option.map_eq_some_iff] at hf
    obtain ⟨fl, hf, he⟩ := hf
    cases he
    simp only [execOp, Instr.field, run_underlying hu, ← Array.getElem?_toList, hf, e1, asAgg, part, run_isAgg h.2.1, Sem.run_bind, Sem.run_pure, Result.andThen_ok]
    cases hagg : (mkTI P fl.type).isAgg with
    | true =>
      simp only [hagg, if_true] at hv
      simp only [if_true, Sem.run_bind, run_sizeOf h.1, Sem.run_pure, Result.andThen_ok]
      rw [hv, extract_toList]
    | false =>
      simp only [hagg] at hv
      simp only [Bool.false_eq_true, if_false] at hv ⊢
      simp only [← Array.getElem?_toList, hv, Sem.run_pure, Result.andThen_ok]

def TK.isSl : TK → Bool | .slice _ => true | _ => false
theorem TK.sl_of {k : TK} (h : k.isSl = true) : ∃ e, k = .slice e := by cases k <;> simp [TK.isSl] at h; exact ⟨_, rfl⟩
def TK.el : TK → Nat | .slice e => e | _ => 0

def isArr : Option AObj → Prop
  | some (.arr _ _ _) => True
  | _ => False
theorem isArr_of {o : Option AObj} (h : isArr o) : ∃ T sz es, o = some (.arr T sz es) := by
  unfold isArr at h; split at h
  · exact ⟨_, _, _, rfl⟩
  · exact h.elim

def isObj : Option AObj → Prop
  | some _ => True
  | none => False
theorem isObj_of {o : Option AObj} (h : isObj o) : (∃ T sz es, o = some (.arr T sz es)) ∨ (∃ cs, o = some (.box cs)) ∨ ∃ ds, o = some (.pre ds) := by
  cases o with
  | none => exact h.elim
  | some x => cases x with
    | box cs => exact .inr (.inl ⟨cs, rfl⟩)
    | pre ds => exact .inr (.inr ⟨ds, rfl⟩)
    | arr T sz es => exact .inl ⟨T, sz, es, rfl⟩
def isBoxB : Option AObj → Bool
  | some (.box _) => true
  | some (.pre _) => true
  | _ => false
theorem isBoxB_of {o : Option AObj} (h : isBoxB o = true) : (∃ cs, o = some (.box cs)) ∨ ∃ ds, o = some (.pre ds) := by
  unfold isBoxB at h; split at h
  · exact .inl ⟨_, rfl⟩
  · exact .inr ⟨_, rfl⟩
  · cases h

def aLen (P : Program) (t : Nat) (x : AV) (H : HF) : Out :=
  match x with
  | .d (.sl es) => ⟨(mkTI P t).k.isSl = true, .d (.int .i64 es.length), []⟩
  | .nils => ⟨(mkTI P t).k.isSl = true, .d (.int .i64 0), []⟩
  | .arr id _ len => ⟨(mkTI P t).k.isSl = true ∧ isObj (H id), .d (.int .i64 len), []⟩
  | .d (.str s) => ⟨(mkTI P t).k = .str, .d (.int .i64 s.length), []⟩
  | _ => fail

theorem i64_min : IntKind.i64.min = -9223372036854775808 := by decide
theorem i64_max : IntKind.i64.max = 9223372036854775807 := by decide

theorem run_len_sl {P : Program} {w : World} {t : Nat} (h : (mkTI P t).k.isSl = true) (ty : Nat) (a : Option Addr) (m c : Nat) :
    (Builtin.len_ #[t] ty #[.slice a m c]).run P w = .ok (.int .i64 m) w := by
  obtain ⟨e, he⟩ := TK.sl_of h
  simp [Builtin.len_, run_underlying (und_slice he), goInt]

theorem run_builtin_op {P : Program} {w w' : World} {ρ : Operand → Value} {d b args ts tr p e g} {v : Value} (s : Sem Value)
    (hb : ∀ c, builtin b ts tr c (args.map ρ) = (do pure (.value (← s)))) (h : s.run P w = .ok v w') :
    (execOp ρ ⟨d, .call { callee := .builtin b, args := args, argTypes := ts }, tr, p, e, g⟩).run P w = .ok (.value v) w' := by
  simp only [execOp, resolve, invoke, Sem.run_bind, Sem.run_pure, Result.andThen_ok, hb, h]

def s_len (s : List UInt8) : Int := s.length

theorem sem_len {P n d x t tr p e g E H} (hd : ∀ i, d = some i → i < n) (h : (aLen P t (evalA E x) H).pre) :
    OSem P n ⟨d, .call { callee := .builtin .len, args := #[x], argTypes := #[t] }, tr, p, e, g⟩ E H (aLen P t (evalA E x) H).res [] :=
  OSem.pure hd fun A β a w hc => by
    have h2 := hc.eval x
    generalize evalA E x = X at *
    have key : ∀ (m : Int), (Builtin.len_ #[t] tr #[a.eval x]).run P w = .ok (.int .i64 m) w → (execOp a.eval ⟨d, .call { callee := .builtin .len, args := #[x], argTypes := #[t] }, tr, p, e, g⟩).run P w = .ok (.value (.int .i64 m)) w := fun m hm =>
      run_builtin_op _ (fun _ => by simp [builtin]) hm
    unfold aLen at h ⊢
    split at h
    · simp only [RepV, RepD] at h2
      obtain ⟨ad, cap, e1, _, h3, _⟩ := h2
      exact ⟨_, key _ (by rw [e1]; exact run_len_sl h tr _ _ _), by simp only [RepV, RepD, true_and]; trivial⟩
    · simp only [RepV] at h2
      obtain ⟨ad, e1⟩ := h2
      exact ⟨_, key _ (by rw [e1]; exact run_len_sl h tr _ _ _), by simp only [RepV, RepD]; exact ⟨rfl, trivial⟩⟩
    · obtain ⟨hsl, hl⟩ := h
      rcases isObj_of hl with ⟨T, sz, es, ho⟩ | ⟨cs, ho⟩ | ⟨ds, ho⟩
      rotate_left
      · simp only [RepV, ho] at h2
        obtain ⟨b, ad, cap, _, e1, _⟩ := h2
        exact ⟨_, key _ (by rw [e1]; exact run_len_sl hsl tr _ _ _), by simp only [RepV, RepD, true_and]; trivial⟩
      · simp only [RepV, ho] at h2
        obtain ⟨b, ad, cap, _, e1, _⟩ := h2
        exact ⟨_, key _ (by rw [e1]; exact run_len_sl hsl tr _ _ _), by simp only [RepV, RepD, true_and]; trivial⟩
      have hle := (hc.heap.arr _ _ _ _ ho).1
      simp only [RepV, ho] at h2
      obtain ⟨⟨ad, cap, e1, _⟩, h3, _⟩ := h2
      exact ⟨_, key _ (by rw [e1]; exact run_len_sl hsl tr _ _ _), by simp only [RepV, RepD, true_and]; trivial⟩
    · simp only [RepV, RepD] at h2
      exact ⟨_, key (s_len ‹List UInt8›) (by rw [h2.1]; simp [s_len, Builtin.len_, run_underlying (und_str h), goInt, mk_size]), by simp only [RepV, RepD, s_len, true_and]; trivial⟩
    · exact h.elim

/-- The address of an element. -/
def aIndexAddr (P : Program) (t : Nat) (x i : AV) (H : HF) : Out :=
  match x, i with
  | .d (.sl es), .d (.int _ j) => ⟨(mkTI P t).k.isSl = true ∧ (mkTI P (mkTI P t).k.el).size ≠ 0 ∧ 0 ≤ j ∧ j < es.length ∧ (es.getD j.toNat []).length = (mkTI P (mkTI P t).k.el).size, .ref (es.getD j.toNat []), []⟩
  | .arr id off len, .d (.int _ j) => bif isBoxB (H id) then ⟨(mkTI P t).k.isSl = true ∧ 0 ≤ j ∧ j < len ∧ (mkTI P (mkTI P t).k.el).size ≠ 0, .box id (off + j.toNat * (mkTI P (mkTI P t).k.el).size), []⟩ else ⟨(mkTI P t).k.isSl = true ∧ 0 ≤ j ∧ j < len ∧ (match H id with | some (.arr _ sz es) => off + len = es.length ∧ sz = (mkTI P (mkTI P t).k.el).size ∧ sz ≠ 0 | _ => False), .elt id (off + j.toNat) 0 (off + len), []⟩
  | _, _ => fail

theorem run_indexAt {P : Program} {w : World} {t : Nat} (h : (mkTI P t).k.isSl = true) (hs : (mkTI P (mkTI P t).k.el).size ≠ 0) (b o m c : Nat) (k : IntKind) (j : Int) (h0 : 0 ≤ j) (h1 : j < m) :
    (Instr.indexAt t (.slice (some ⟨b, o, none⟩) m c) (.int k j)).run P w = .ok (.pointer (some ⟨b, o + j.toNat * (mkTI P (mkTI P t).k.el).size, none⟩)) w := by
  obtain ⟨e, he⟩ := TK.sl_of h
  have hel : (mkTI P t).k.el = e := by rw [he]; rfl
  rw [hel] at hs ⊢
  simp [Instr.indexAt, asIntOf, run_underlying (und_slice he), h0, h1, run_sizeOf hs, add_eq]

theorem sem_indexAddr {P n d t x i tr p e g E H} (hd : ∀ i, d = some i → i < n) (h : (aIndexAddr P t (evalA E x) (evalA E i) H).pre) :
    OSem P n ⟨d, .indexAddr t x i, tr, p, e, g⟩ E H (aIndexAddr P t (evalA E x) (evalA E i) H).res [] :=
  OSem.pure hd fun A β a w hc => by
    have h2 := hc.eval x
    have h3 := hc.eval i
    generalize evalA E x = X at *
    generalize evalA E i = I at *
    unfold aIndexAddr at h ⊢
    split at h
    · rename_i es k j
      simp only [RepV, RepD] at h2 h3
      obtain ⟨ad, cap, e1, _, _, h4⟩ := h2
      obtain ⟨hsl, hsz, h0, h1, hlen⟩ := h
      have hj : j.toNat < es.length := by omega
      have hget : es[j.toNat]? = some (es.getD j.toNat []) := by simp [hj]
      rcases h4 with h4 | ⟨b, o, s, rfl, hA, hr⟩
      · rw [h4] at hj; simp at hj
      obtain ⟨h5, h6⟩ := hr.get j.toNat _ hget
      refine ⟨_, by simp only [execOp, e1, h3.1, run_indexAt hsl hsz b o es.length cap k j h0 h1, Sem.run_bind, Sem.run_pure, Result.andThen_ok]; try rfl, ?_⟩
      simp only [RepV]
      exact ⟨b, _, rfl, hA, by rw [← hlen, h5]; exact h6⟩
    · rename_i id off len k j
      cases hbx : isBoxB (H id) with
      | true =>
        rw [hbx] at h
        simp only [cond_true] at h ⊢
        obtain ⟨hsl, h0, h1, hs0⟩ := h
        rcases isBoxB_of hbx with ⟨cs, ho⟩ | ⟨ds, ho⟩
        all_goals
        simp only [RepV, RepD, ho] at h2 h3 ⊢
        obtain ⟨b, ad, cap, hb, e1, hcap, ha⟩ := h2
        rcases ha with ha | ha
        · omega
        subst ha
        exact ⟨_, by simp only [execOp, e1, h3.1, run_indexAt hsl hs0 b off len cap k j h0 (by omega), Sem.run_bind, Sem.run_pure, Result.andThen_ok]; try rfl, b, hb, rfl⟩
      | false =>
      rw [hbx] at h
      simp only [cond_false] at h ⊢
      obtain ⟨hsl, h0, h1, hm⟩ := h
      split at hm
      · rename_i T sz es ho
        obtain ⟨hl, hsz, hsz0⟩ := hm
        simp only [RepV, RepD, ho] at h2 h3 ⊢
        obtain ⟨⟨ad', cap', e2, hc'⟩, h5, h6⟩ := h2
        rcases h6 hl with ⟨_, hoff, ad, e1⟩ | ⟨b, ad, cap, hb, e1, ha, hcap, hcl⟩
        · rw [e1] at e2; cases e2; omega
        · have hcap0 : cap ≠ 0 := by
            rintro rfl
            rw [e1] at e2; cases e2; omega
          rcases ha with ha | ha
          · exact absurd ha hcap0
          subst ha
          refine ⟨_, by simp only [execOp, e1, h3.1, run_indexAt hsl (by rw [← hsz]; exact hsz0) b (off * sz) len cap k j h0 (by omega), Sem.run_bind, Sem.run_pure, Result.andThen_ok]; try rfl, by omega, fun _ => ⟨b, hb, ?_⟩⟩
          rw [← hsz]
          simp [Nat.add_mul]
      · exact hm.elim
    · exact h.elim
end Go.AX
set_option linter.unusedVariables false
set_option linter.unusedSimpArgs false
namespace Go.AX

def aMin (x y : AV) : Out :=
  match x, y with
  | .d (.int k a), .d (.int k' b) => ⟨k = k', .d (.int k (min a b)), []⟩
  | _, _ => fail
def aMax (x y : AV) : Out :=
  match x, y with
  | .d (.int k a), .d (.int k' b) => ⟨k = k', .d (.int k (max a b)), []⟩
  | _, _ => fail

theorem sem_min {P n d x y ts tr p e g E H} (hd : ∀ i, d = some i → i < n) (h : (aMin (evalA E x) (evalA E y)).pre) :
    OSem P n ⟨d, .call { callee := .builtin .min, args := #[x, y], argTypes := ts }, tr, p, e, g⟩ E H (aMin (evalA E x) (evalA E y)).res [] :=
  OSem.pure hd fun A β a w hc => by
    have h2 := hc.eval x
    have h3 := hc.eval y
    generalize evalA E x = X at *
    generalize evalA E y = Y at *
    unfold aMin at h ⊢
    split at h
    · rename_i k b k' b'
      simp only [RepV, RepD] at h2 h3
      have hk : k = k' := h
      subst hk
      refine ⟨.int k (min b b'), run_builtin_op (Builtin.min_ ts tr #[a.eval x, a.eval y]) (fun _ => by simp [builtin]) ?_, ?_⟩
      · simp only [h2.1, h3.1, List.map_toArray, List.map_cons, List.map_nil, Builtin.min_, Builtin.min2, List.foldlM_cons, List.foldlM_nil, Sem.run_bind, Sem.run_pure, Result.andThen_ok]
        congr 2
        rw [Int.min_def]; split <;> split <;> omega
      · simp only [RepV, RepD, true_and]
        have h4 := h2.2
        have h5 := h3.2
        trivial
    · exact h.elim

theorem sem_max {P n d x y ts tr p e g E H} (hd : ∀ i, d = some i → i < n) (h : (aMax (evalA E x) (evalA E y)).pre) :
    OSem P n ⟨d, .call { callee := .builtin .max, args := #[x, y], argTypes := ts }, tr, p, e, g⟩ E H (aMax (evalA E x) (evalA E y)).res [] :=
  OSem.pure hd fun A β a w hc => by
    have h2 := hc.eval x
    have h3 := hc.eval y
    generalize evalA E x = X at *
    generalize evalA E y = Y at *
    unfold aMax at h ⊢
    split at h
    · rename_i k b k' b'
      simp only [RepV, RepD] at h2 h3
      have hk : k = k' := h
      subst hk
      refine ⟨.int k (max b b'), run_builtin_op (Builtin.max_ ts tr #[a.eval x, a.eval y]) (fun _ => by simp [builtin]) ?_, ?_⟩
      · simp only [h2.1, h3.1, List.map_toArray, List.map_cons, List.map_nil, Builtin.max_, Builtin.max2, List.foldlM_cons, List.foldlM_nil, Sem.run_bind, Sem.run_pure, Result.andThen_ok]
        congr 2
        rw [Int.max_def]; split <;> split <;> omega
      · simp only [RepV, RepD, true_and]
        have h4 := h2.2
        have h5 := h3.2
        trivial
    · exact h.elim

def aIndex (P : Program) (t : Nat) (x i : AV) : Out :=
  match x, i with
  | .d (.str s), .d (.int _ j) => ⟨(mkTI P t).k = .str ∧ 0 ≤ j ∧ j < s.length, .d (.int .u8 (s.getD j.toNat 0).toNat), []⟩
  | .agg cs, .d (.int _ j) => match (mkTI P t).k with
    | .array m el => ⟨0 ≤ j ∧ j < m ∧ (mkTI P el).size ≠ 0 ∧ (mkTI P el).k ≠ .other ∧ j.toNat * (mkTI P el).size < cs.length, cut (mkTI P el).isAgg (j.toNat * (mkTI P el).size) (mkTI P el).size cs, []⟩
    | _ => fail
  | _, _ => fail

theorem sem_index {P n d t x i tr p e g E H} (hd : ∀ i, d = some i → i < n) (h : (aIndex P t (evalA E x) (evalA E i)).pre) :
    OSem P n ⟨d, .index t x i, tr, p, e, g⟩ E H (aIndex P t (evalA E x) (evalA E i)).res [] :=
  OSem.pure hd fun A β a w hc => by
    have h2 := hc.eval x
    have h3 := hc.eval i
    generalize evalA E x = X at *
    generalize evalA E i = I at *
    unfold aIndex at h ⊢
    split at h
    · rename_i s k j
      simp only [RepV, RepD] at h2 h3
      obtain ⟨h1, h4, h5⟩ := h
      have hj : j.toNat < s.length := by omega
      refine ⟨.int .u8 (s.getD j.toNat 0).toNat, ?_, ?_⟩
      · have e1 : (⟨s.toArray⟩ : ByteArray)[j.toNat]? = some (s.getD j.toNat 0) := by
          rw [getElem?_pos (⟨s.toArray⟩ : ByteArray) j.toNat (by simpa [mk_size] using hj)]
          simp [hj]
          rfl
        simp [execOp, Instr.index, h2.1, h3.1, asIntOf, run_underlying (und_str h1), h4, e1]
      · simp only [RepV, RepD, true_and, fits]
    · rename_i cs k j
      split at h
      · rename_i m el hk
        obtain ⟨h1, h4, h5, h6, h7⟩ := h
        simp only [RepV, RepD] at h2 h3
        obtain ⟨vs, e1, hr⟩ := h2
        obtain ⟨v, hv, hrep⟩ := cut_rep hr (mkTI P el).isAgg (j.toNat * (mkTI P el).size) (mkTI P el).size h7
        refine ⟨v, ?_, hrep⟩
        simp only [execOp, Instr.index, e1, h3.1, asIntOf, run_underlying (und_array hk), Sem.run_bind, Sem.run_pure, Result.andThen_ok]
        have hcond : (0 ≤ j ∧ j < (m : Int)) := ⟨h1, h4⟩
        simp only [hcond, and_self, if_true, part, Sem.run_bind, run_sizeOf h5, Result.andThen_ok, run_isAgg h6]
        cases hagg : (mkTI P el).isAgg with
        | true =>
          simp only [hagg, if_true] at hv
          simp only [if_true, Sem.run_bind, run_sizeOf h5, Sem.run_pure, Result.andThen_ok]
          rw [hv, extract_toList]
        | false =>
          simp only [hagg] at hv
          simp only [Bool.false_eq_true, if_false] at hv ⊢
          simp only [← Array.getElem?_toList, hv, Sem.run_pure, Result.andThen_ok]
      · exact h.elim
    · exact h.elim

def bnd (dflt : Int) : Option AV → Int
  | none => dflt
  | some (.d (.int _ j)) => j
  | _ => -1
def isInt : Option AV → Prop
  | none => True
  | some (.d (.int _ _)) => True
  | _ => False

def aSlice (P : Program) (t : Nat) (x : AV) (lo hi : Option AV) (H : HF) : Out :=
  match x with
  | .d (.sl es) => ⟨isInt lo ∧ isInt hi ∧ (mkTI P t).k.isSl = true ∧ (mkTI P (mkTI P t).k.el).size ≠ 0 ∧ 0 ≤ bnd 0 lo ∧ bnd 0 lo ≤ bnd es.length hi ∧ bnd es.length hi ≤ es.length ∧ (∀ e ∈ es.head?, e.length = (mkTI P (mkTI P t).k.el).size),
      .d (.sl ((es.take (bnd es.length hi).toNat).drop (bnd 0 lo).toNat)), []⟩
  | .arr id off len => bif isBoxB (H id) then ⟨isInt lo ∧ isInt hi ∧ (mkTI P t).k.isSl = true ∧ (mkTI P (mkTI P t).k.el).size = 1 ∧ 0 ≤ bnd 0 lo ∧ bnd 0 lo ≤ bnd len hi ∧ bnd len hi ≤ len,
      .arr id (off + (bnd 0 lo).toNat * (mkTI P (mkTI P t).k.el).size) ((bnd len hi).toNat - (bnd 0 lo).toNat), []⟩ else ⟨isInt lo ∧ isInt hi ∧ (mkTI P t).k.isSl = true ∧ (mkTI P (mkTI P t).k.el).size ≠ 0 ∧ 0 ≤ bnd 0 lo ∧ bnd 0 lo ≤ bnd len hi ∧ bnd len hi ≤ len ∧ (match H id with | some (.arr _ sz _) => sz = (mkTI P (mkTI P t).k.el).size | _ => False),
      .arr id (off + (bnd 0 lo).toNat) ((bnd len hi).toNat - (bnd 0 lo).toNat), []⟩
  | .d (.str s) => ⟨isInt lo ∧ isInt hi ∧ (mkTI P t).k = .str ∧ 0 ≤ bnd 0 lo ∧ bnd 0 lo ≤ bnd s.length hi ∧ bnd s.length hi ≤ s.length, .d (.str ((s.take (bnd s.length hi).toNat).drop (bnd 0 lo).toNat)), []⟩
  | _ => fail

theorem bnd_rep {w A β H n E a} (hc : CfgF n A β E H a w) (x : Option Operand) (hi : isInt (x.map (evalA E))) (dflt : Int) :
    ∀ y : Operand, x = some y → ∃ k, a.eval y = .int k (bnd dflt (x.map (evalA E))) := by
  rintro y rfl
  have h := hc.eval y
  simp only [Option.map_some] at hi ⊢
  generalize evalA E y = Y at *
  unfold isInt at hi
  split at hi
  · rename_i hh; cases hh
  · rename_i k j hh
    cases hh
    simp only [RepV, RepD] at h
    exact ⟨k, by simp only [bnd]; exact h.1⟩
  · exact hi.elim

theorem run_sliceBound {P : Program} {w : World} {k : IntKind} {i : Int} {y : Nat} {c : BoundsCode} (h0 : 0 ≤ i) (h1 : i ≤ y) : (Instr.sliceBound (.int k i) y c).run P w = .ok i.toNat w := by
  simp [Instr.sliceBound, asIntOf, h0, h1]

theorem run_sliceBounds {P : Program} {n A β E H a} {w : World} (hc : CfgF n A β E H a w) (lo hi : Option Operand) (isS : Bool) (len cap : Nat) (hlen : len ≤ cap)
    (h1 : isInt (lo.map (evalA E))) (h2 : isInt (hi.map (evalA E))) (h3 : 0 ≤ bnd 0 (lo.map (evalA E))) (h4 : bnd 0 (lo.map (evalA E)) ≤ bnd len (hi.map (evalA E))) (h5 : bnd len (hi.map (evalA E)) ≤ len) :
    (Instr.sliceBounds isS len cap (lo.map a.eval) (hi.map a.eval) none).run P w = .ok ((bnd 0 (lo.map (evalA E))).toNat, (bnd len (hi.map (evalA E))).toNat, cap) w := by
  have hh := bnd_rep hc hi h2 len
  have hl := bnd_rep hc lo h1 0
  have hl0 : lo = none → bnd 0 (lo.map (evalA E)) = 0 := by rintro rfl; rfl
  have hh0 : hi = none → bnd len (hi.map (evalA E)) = len := by rintro rfl; rfl
  generalize bnd 0 (lo.map (evalA E)) = l at *
  generalize bnd len (hi.map (evalA E)) = m at *
  have e2 : m ≤ (cap : Int) := by omega
  have e3 : ((m.toNat : Nat) : Int) = m := by omega
  cases hi with
  | none =>
    have hm := hh0 rfl
    subst hm
    cases lo with
    | none =>
      have := hl0 rfl
      subst this
      simp [Instr.sliceBounds]
    | some y =>
      obtain ⟨k, hk⟩ := hl y rfl
      simp [Instr.sliceBounds, hk, run_sliceBound h3 h4]
  | some z =>
    obtain ⟨kz, hz⟩ := hh z rfl
    cases lo with
    | none =>
      have := hl0 rfl
      subst this
      cases isS <;> simp [Instr.sliceBounds, hz, run_sliceBound (show 0 ≤ m by omega) e2]
    | some y =>
      obtain ⟨k, hk⟩ := hl y rfl
      cases isS <;> simp [Instr.sliceBounds, hk, hz, run_sliceBound (show 0 ≤ m by omega) e2, run_sliceBound h3 (show l ≤ (m.toNat : Int) by omega)]

theorem sem_slice {P n d t x lo hi tr p e g E H} (hd : ∀ i, d = some i → i < n) (h : (aSlice P t (evalA E x) (lo.map (evalA E)) (hi.map (evalA E)) H).pre) :
    OSem P n ⟨d, .slice t x lo hi none, tr, p, e, g⟩ E H (aSlice P t (evalA E x) (lo.map (evalA E)) (hi.map (evalA E)) H).res [] :=
  OSem.pure hd fun A β a w hc => by
    have h2 := hc.eval x
    generalize evalA E x = X at *
    unfold aSlice at h ⊢
    have und : ∀ {e}, P.underlying t = some (.slice e) → ∀ v, (Instr.sliceAt t v (lo.map a.eval) (hi.map a.eval) none).run P w = (Instr.slice t v (lo.map a.eval) (hi.map a.eval) none).run P w := fun hu v => by
      simp [Instr.sliceAt, run_underlying hu]
    split at h
    · rename_i es
      obtain ⟨g1, g2, g3, g4, g5, g6, g7, g8⟩ := h
      obtain ⟨el, hel⟩ := TK.sl_of g3
      have hu := und_slice hel
      have hel' : (mkTI P t).k.el = el := by rw [hel]; rfl
      rw [hel'] at g4 g8
      simp only [RepV, RepD] at h2
      obtain ⟨ad, cap, e1, hcap, hLB, h4⟩ := h2
      have hb := run_sliceBounds (P := P) hc lo hi true es.length cap hcap g1 g2 g5 g6 g7
      generalize bnd 0 (lo.map (evalA E)) = l at *
      generalize bnd es.length (hi.map (evalA E)) = m at *
      refine ⟨.slice (if cap = l.toNat then ad else ad.map (·.add (l.toNat * (mkTI P el).size))) (m.toNat - l.toNat) (cap - l.toNat), ?_, ?_⟩
      · simp only [execOp, Option.map_none, und hu, Instr.slice, run_underlying hu, e1, hb, run_sizeOf g4, Sem.run_bind, Sem.run_pure, Result.andThen_ok]
      · have hlen : ((es.take m.toNat).drop l.toNat).length = m.toNat - l.toNat := by simp; omega
        simp only [RepV, RepD]
        refine ⟨_, _, by rw [hlen], by rw [hlen]; omega, trivial, ?_⟩
        by_cases hz : m.toNat - l.toNat = 0
        · exact .inl (List.eq_nil_of_length_eq_zero (by rw [hlen]; exact hz))
        · rcases h4 with h4 | ⟨b, o, s, rfl, hA, hr⟩
          · rw [h4] at g7; simp at g7; omega
          · have hne : cap ≠ l.toNat := by omega
            have hs : s = (mkTI P el).size := by
              cases es with
              | nil => simp at g7; omega
              | cons e0 r =>
                have := g8 e0 (by simp)
                rw [← this]
                exact ((hr.get 0 e0 (by simp)).1).symm
            refine .inr ⟨b, o + l.toNat * s, s, by simp [hne, add_eq, hs], hA, RepEs.drop l.toNat (RepEs.take m.toNat hr) (by simp; omega)⟩
    · rename_i id off len
      cases hbx : isBoxB (H id) with
      | true =>
        rw [hbx] at h
        simp only [cond_true] at h ⊢
        obtain ⟨g1, g2, g3, g4, g5, g6, g7⟩ := h
        obtain ⟨el, hel⟩ := TK.sl_of g3
        have hu := und_slice hel
        have hel' : (mkTI P t).k.el = el := by rw [hel]; rfl
        rw [hel'] at g4 ⊢
        rcases isBoxB_of hbx with ⟨cs, ho⟩ | ⟨ds, ho⟩
        all_goals
        simp only [RepV, ho] at h2 ⊢
        obtain ⟨b, ad, cap, hb0, e1, hcap, ha, hbs⟩ := h2
        have hb := run_sliceBounds (P := P) hc lo hi true len cap hcap g1 g2 g5 g6 g7
        generalize bnd 0 (lo.map (evalA E)) = l at *
        generalize bnd len (hi.map (evalA E)) = m at *
        refine ⟨.slice (if cap = l.toNat then some ad else (some ad).map (·.add (l.toNat * (mkTI P el).size))) (m.toNat - l.toNat) (cap - l.toNat), ?_, b, if cap = l.toNat then ad else ad.add (l.toNat * (mkTI P el).size), cap - l.toNat, hb0, ?_, by omega, ?_⟩
        · simp only [execOp, Option.map_none, und hu, Instr.slice, run_underlying hu, e1, hb, run_sizeOf (show (mkTI P el).size ≠ 0 by omega), Sem.run_bind, Sem.run_pure, Result.andThen_ok]
        · split <;> simp
        · refine ⟨?_, by rw [g4]; omega⟩
          by_cases hcl : cap = l.toNat
          · exact .inl (by omega)
          · rcases ha with ha | ha
            · omega
            · refine .inr ?_
              rw [if_neg hcl, ha, add_eq]
      | false =>
      rw [hbx] at h
      simp only [cond_false] at h ⊢
      obtain ⟨g1, g2, g3, g4, g5, g6, g7, g8⟩ := h
      split at g8
      rotate_left
      · exact g8.elim
      rename_i T sz es ho
      obtain ⟨el, hel⟩ := TK.sl_of g3
      have hu := und_slice hel
      have hel' : (mkTI P t).k.el = el := by rw [hel]; rfl
      rw [hel'] at g4 g8
      simp only [RepV, ho] at h2 ⊢
      obtain ⟨⟨ad, cap, e1, hcap⟩, h3, h4⟩ := h2
      have hb := run_sliceBounds (P := P) hc lo hi true len cap hcap g1 g2 g5 g6 g7
      generalize bnd 0 (lo.map (evalA E)) = l at *
      generalize bnd len (hi.map (evalA E)) = m at *
      refine ⟨.slice (if cap = l.toNat then ad else ad.map (·.add (l.toNat * (mkTI P el).size))) (m.toNat - l.toNat) (cap - l.toNat), ?_, ⟨_, _, rfl, by clear h4; omega⟩, by clear h4; omega, fun hs => ?_⟩
      · simp only [execOp, Option.map_none, und hu, Instr.slice, run_underlying hu, e1, hb, run_sizeOf g4, Sem.run_bind, Sem.run_pure, Result.andThen_ok]
      · have hs' : off + len = es.length := by clear h4; omega
        rcases h4 hs' with ⟨hb0, hoff, a0, e2⟩ | ⟨b, a0, cap0, hb0, e2, ha, hc1, hc2⟩
        · rw [e1] at e2; cases e2
          have : l.toNat = 0 := by omega
          have hm0 : m.toNat = 0 := by omega
          refine .inl ⟨hb0, by omega, ad, by simp [this, hm0]⟩
        · rw [e1] at e2; cases e2
          refine .inr ⟨b, if cap = l.toNat then a0 else a0.add (l.toNat * (mkTI P el).size), cap - l.toNat, hb0, ?_, ?_, ?_, by omega⟩
          · split <;> simp
          · by_cases hcl : cap = l.toNat
            · exact .inl (by omega)
            · rcases ha with ha | ha
              · omega
              · refine .inr ?_
                rw [if_neg hcl, ha, add_eq, ← g8, Nat.add_mul]
          · rw [← hc1]
            congr 1
            omega
    · rename_i s
      obtain ⟨g1, g2, g3, g5, g6, g7⟩ := h
      have hu := und_str g3
      simp only [RepV, RepD] at h2
      have hb := run_sliceBounds (P := P) hc lo hi false s.length s.length (Nat.le_refl _) g1 g2 g5 g6 g7
      generalize bnd 0 (lo.map (evalA E)) = l at *
      generalize bnd s.length (hi.map (evalA E)) = m at *
      refine ⟨.string ((⟨s.toArray⟩ : ByteArray).extract l.toNat m.toNat), ?_, ?_⟩
      · simp [execOp, Instr.sliceAt, run_underlying hu, Instr.slice, h2.1, mk_size, hb]
      · simp only [RepV, RepD]
        refine ⟨?_, trivial⟩
        congr 1
        apply ByteArray.ext
        simp [List.extract_eq_take_drop, List.drop_take]
    · exact h.elim

/-- 's[:0:0]' -/
def aSlice0 (P : Program) (t : Nat) (x : AV) (hi mx : AV) (H : HF) : Out :=
  match hi, mx with
  | .d (.int _ 0), .d (.int _ 0) => ⟨(mkTI P t).k.isSl = true ∧ (mkTI P (mkTI P t).k.el).size ≠ 0 ∧ (match x with | .d (.sl _) => True | .nils => True | .arr id _ _ => isArr (H id) | _ => False), .nils, []⟩
  | _, _ => fail

theorem sem_slice0 {P n d t x hi mx tr p e g E H} (hd : ∀ i, d = some i → i < n) (h : (aSlice0 P t (evalA E x) (evalA E hi) (evalA E mx) H).pre) :
    OSem P n ⟨d, .slice t x none (some hi) (some mx), tr, p, e, g⟩ E H (aSlice0 P t (evalA E x) (evalA E hi) (evalA E mx) H).res [] :=
  OSem.pure hd fun A β a w hc => by
    have h2 := hc.eval x
    have h3 := hc.eval hi
    have h4 := hc.eval mx
    generalize evalA E x = X at *
    generalize evalA E hi = Hi at *
    generalize evalA E mx = Mx at *
    unfold aSlice0 at h ⊢
    split at h
    · simp only [RepV, RepD] at h3 h4
      obtain ⟨g1, g2, g3⟩ := h
      obtain ⟨el, hel⟩ := TK.sl_of g1
      have hu := und_slice hel
      have hel' : (mkTI P t).k.el = el := by rw [hel]; rfl
      rw [hel'] at g2
      have hx : ∃ ad len cap, a.eval x = .slice ad len cap := by
        split at g3
        · simp only [RepV, RepD] at h2; obtain ⟨ad, cap, e1, _⟩ := h2; exact ⟨_, _, _, e1⟩
        · simp only [RepV] at h2; obtain ⟨ad, e1⟩ := h2; exact ⟨_, _, _, e1⟩
        · obtain ⟨T, sz, es, ho⟩ := isArr_of g3
          simp only [RepV, ho] at h2; obtain ⟨⟨ad, cap, e1, _⟩, _⟩ := h2; exact ⟨_, _, _, e1⟩
        · exact g3.elim
      obtain ⟨ad, len, cap, e1⟩ := hx
      refine ⟨_, by simp [execOp, Instr.sliceAt, run_underlying hu, Instr.slice, e1, h3.1, h4.1, Instr.sliceBounds, run_sliceBound (P := P) (w := w) (k := _) (i := 0) (y := cap) (by omega) (by omega), run_sliceBound (P := P) (w := w) (k := _) (i := 0) (y := 0) (by omega) (by omega), run_sizeOf g2]; rfl, ?_⟩
      simp only [RepV]
      exact ⟨_, rfl⟩
    · exact h.elim
end Go.AX
set_option linter.unusedVariables false
set_option linter.unusedSimpArgs false
namespace Go.AX

def aLoad (P : Program) (t : Nat) (x : AV) (H : HF) : Out :=
  match x with
  | .ref cs => ⟨(mkTI P t).k ≠ .other ∧ (mkTI P t).size ≠ 0 ∧ (mkTI P t).size ≤ cs.length, cut (mkTI P t).isAgg 0 (mkTI P t).size (cs.map AV.d), []⟩
  | .box id o => match H id with
    | some (.box cs) => ⟨(mkTI P t).k ≠ .other ∧ (mkTI P t).size ≠ 0 ∧ o + (mkTI P t).size ≤ cs.length, cut (mkTI P t).isAgg o (mkTI P t).size cs, []⟩
    | some (.pre ds) => ⟨(mkTI P t).k ≠ .other ∧ (mkTI P t).size = 1 ∧ o + (mkTI P t).size ≤ ds.length, cut (mkTI P t).isAgg o (mkTI P t).size (ds.map AV.d), []⟩
    | _ => fail
  | .elt id i o m => match H id with
    | some (.arr _ sz es) => ⟨(mkTI P t).k ≠ .other ∧ (mkTI P t).size ≠ 0 ∧ m = es.length ∧ i < es.length ∧ o + (mkTI P t).size ≤ sz, cut (mkTI P t).isAgg o (mkTI P t).size ((es.getD i []).map AV.d), []⟩
    | _ => fail
  | _ => fail

theorem run_loadVar {P : Program} {w : World} {A β H} {t b o : Nat} {cs : List AV} {vs : List Value} (hk : (mkTI P t).k ≠ .other) (hs : (mkTI P t).size ≠ 0)
    (hr : RepVs w A β H cs vs) (hc : ∀ (j : Nat) (v : Value), vs[j]? = some v → w.cell? ⟨b, o + j, none⟩ = some v) (hl : (mkTI P t).size ≤ cs.length) :
    ∃ v, (loadVar t ⟨b, o, none⟩).run P w = .ok v w ∧ RepV w A β H (cut (mkTI P t).isAgg 0 (mkTI P t).size cs) v := by
  have hlen := hr.length
  cases hagg : (mkTI P t).isAgg with
  | true =>
    refine ⟨.agg (vs.take (mkTI P t).size).toArray, ?_, ?_⟩
    · have h1 : (vs.take (mkTI P t).size).length = (mkTI P t).size := by simp; omega
      have h2 := run_loadCells_list (P := P) w ⟨b, o, none⟩ (vs.take (mkTI P t).size) (fun j v hj => by
        rw [add_eq]
        rw [List.getElem?_take] at hj
        split at hj
        · exact hc j v hj
        · cases hj)
      rw [h1] at h2
      simp only [loadVar, Sem.run_bind, run_isAgg hk, hagg, Result.andThen_ok, if_true, run_sizeOf hs, h2, Sem.run_pure]
    · simp only [cut, cond_true, RepV, List.drop_zero]
      exact ⟨_, rfl, by simpa using hr.take _⟩
  | false =>
    have h0 : 0 < cs.length := by omega
    obtain ⟨v, h1, h2⟩ := hr.get 0 cs[0] (by simp)
    refine ⟨v, ?_, ?_⟩
    · have := hc 0 v h1
      rw [Nat.add_zero] at this
      simp only [loadVar, Sem.run_bind, run_isAgg hk, hagg, Result.andThen_ok, Bool.false_eq_true, if_false, run_load, this]
    · simp only [cut, cond_false, List.drop_zero]
      cases cs with
      | nil => simp at h0
      | cons x r => simpa using h2

theorem sem_load {P n d t x tr p e g E H} (hd : ∀ i, d = some i → i < n) (h : (aLoad P t (evalA E x) H).pre) :
    OSem P n ⟨d, .load t x, tr, p, e, g⟩ E H (aLoad P t (evalA E x) H).res [] :=
  OSem.pure hd fun A β a w hc => by
    have h2 := hc.eval x
    generalize evalA E x = X at *
    unfold aLoad at h ⊢
    have fin : ∀ b o (z : AV), a.eval x = .pointer (some ⟨b, o, none⟩) → (∃ v, (loadVar t ⟨b, o, none⟩).run P w = .ok v w ∧ RepV w A β H z v) →
        ∃ v, (execOp a.eval ⟨d, .load t x, tr, p, e, g⟩).run P w = .ok (.value v) w ∧ RepV w A β H z v := fun b o z e1 ⟨v, h1, h2⟩ =>
      ⟨v, by simp only [execOp, Instr.loadAt, e1, Instr.sureAddr, Sem.run_bind, Sem.run_pure, Result.andThen_ok, h1], h2⟩
    split at h
    · rename_i cs
      simp only [RepV] at h2
      obtain ⟨b, o, e1, hA, hr⟩ := h2
      obtain ⟨vs, h3, h4⟩ := hr.values
      exact fin b o _ e1 (run_loadVar h.1 h.2.1 (RepVs_d.2 h3) h4 (by simpa using h.2.2))
    · rename_i id o
      split at h
      · rename_i cs ho
        simp only [RepV, ho] at h2
        obtain ⟨b, hb, e1⟩ := h2
        obtain ⟨b', c, T, hb', hcell, hr⟩ := hc.heap.box id cs ho
        rw [hb] at hb'; cases hb'
        have := run_loadVar (P := P) (t := t) (b := b) (o := o) h.1 h.2.1 (hr.drop o) (fun j v hj => by
          rw [List.getElem?_drop] at hj
          simpa [World.cell?, hcell] using hj) (by simp; omega)
        refine fin b o _ e1 ?_
        simpa only [cut, List.drop_zero] using this
      · rename_i ds ho
        simp only [RepV, ho] at h2
        obtain ⟨b, hb, e1⟩ := h2
        obtain ⟨b', c, T, us, vs, hb', hcell, hcs, hr⟩ := hc.heap.pre id ds ho
        rw [hb] at hb'; cases hb'
        have hlen := hr.length
        rw [List.length_map] at hlen
        have := run_loadVar (P := P) (t := t) (b := b) (o := o) h.1 (by omega) (hr.drop o) (fun j v hj => by
          rw [List.getElem?_drop] at hj
          have hlt : o + j < us.length := by
            rcases Nat.lt_or_ge (o + j) us.length with h | h
            · exact h
            · rw [List.getElem?_eq_none h] at hj; cases hj
          have h5 : c.toList[o + j]? = some v := by rw [hcs, List.getElem?_append_left hlt]; exact hj
          simpa [World.cell?, hcell] using h5) (by rw [List.length_drop, List.length_map]; omega)
        refine fin b o _ e1 ?_
        simpa only [cut, List.drop_zero] using this
      · exact h.elim
    · rename_i id i o m
      split at h
      · rename_i T sz es ho
        obtain ⟨g1, g2, g3, g4, g5⟩ := h
        simp only [RepV, ho] at h2
        obtain ⟨b, hb, e1⟩ := h2.2 g3.symm
        obtain ⟨_, hr⟩ := hc.heap.arr id T sz es ho
        rcases hr with ⟨hr, _⟩ | ⟨b', c, hb', hcell, _, hr⟩
        · rw [hb] at hr; cases hr
        rw [hb] at hb'; cases hb'
        have hget : es[i]? = some (es.getD i []) := by simp [g4]
        obtain ⟨h5, h6⟩ := hr.get i _ hget
        obtain ⟨vs, h3, h4⟩ := (RepCs.drop o h6).values
        rw [Nat.zero_add] at h4
        have := run_loadVar (P := P) (t := t) (b := b) (o := i * sz + o) (β := β) (H := H) g1 g2 (RepVs_d.2 h3) h4 (by rw [List.length_map, List.length_drop, h5]; omega)
        refine fin b _ _ e1 ?_
        simpa only [cut, List.drop_zero, List.map_drop] using this
      · exact h.elim
    · exact h.elim

theorem OSem.value {P n o E H r u} (hd : ∀ d, o.dst = some d → d < n)
    (h : ∀ A β a w, CfgF n A β E H a w → ∃ v w' A' β', (execOp a.eval o).run P w = .ok (.value v) w' ∧ CfgF n A' β' E (updF H u) a w' ∧ RepV w' A' β' (updF H u) r v ∧ Trans w A β H w' A' β' (updF H u)) : OSem P n o E H r u := by
  intro A β a w hc
  obtain ⟨v, w', A', β', hv, hc', hr, ht⟩ := h A β a w hc
  simp only [Oper.wp, hv, Oper.upon]
  exact ⟨A', β', hc'.put hd hr, ht⟩

def AV.cells : AV → List AV
  | .agg cs => cs
  | x => [x]

/-- It is known what cells the value has. -/
def AV.ok1 (H : HF) : AV → Prop
  | .any => False
  | .tup _ => False
  | .box id _ => liveBox (H id)
  | .elt id _ _ m => liveArr (H id) m
  | .arr id _ _ => isArr (H id)
  | _ => True

theorem updF_one (H : HF) (i : Nat) (o : Option AObj) : updF H [(i, o)] = fun j => if j = i then o else H j := by
  funext j; simp only [updF]

theorem run_zeroValue {P : Program} {t : Nat} (h : (mkTI P t).size ≠ 0) (hz : (mkTI P t).zero.length = (mkTI P t).size) (w : World) :
    ∃ z, (zeroValue t).run P w = .ok z w ∧ ∀ A β H, RepVs w A β H (mkTI P t).zero z.cells.toList := by
  obtain ⟨i, hi, hs, _, h3⟩ := info_of h
  cases hzz : i.zero with
  | none => rw [hzz] at h3; rw [h3] at hz; simp at hz; omega
  | some z =>
    rw [hzz] at h3
    refine ⟨z, by simp [zeroValue, typeInfo, hi, hzz], fun A β H => ?_⟩
    have h4 : (mkTI P t).zero = z.cells.toList.map zv := h3
    rw [h4]
    generalize z.cells.toList = l
    induction l with
    | nil => simp [RepVs]
    | cons x r ih => simp only [List.map_cons, RepVs]; exact ⟨x, _, rfl, zv_rep x, ih⟩

theorem zv_ids (v : Value) : (zv v).ids = [] := by
  unfold zv
  split <;> (try split) <;> simp [AV.ids]
theorem zero_ids (P : Program) (t : Nat) : AV.idsL (mkTI P t).zero = [] := by
  unfold mkTI
  split
  · rfl
  · simp only
    split
    · rename_i z _
      generalize z.cells.toList = l
      induction l with
      | nil => rfl
      | cons x r ih => simp [AV.idsL, zv_ids, ih]
    · rfl

def aAlloc (P : Program) (nm t : Nat) : Out := ⟨(mkTI P t).size ≠ 0 ∧ (mkTI P t).zero.length = (mkTI P t).size, .box nm 0, [(nm, some (.box (mkTI P t).zero))]⟩

theorem sem_alloc {P n d nm t tr p e g E H} (hd : ∀ i, d = some i → i < n) (hf : Fresh nm E H) (h : (aAlloc P nm t).pre) :
    OSem P n ⟨d, .alloc t, tr, p, e, g⟩ E H (aAlloc P nm t).res (aAlloc P nm t).upd :=
  OSem.value hd fun A β a w hc => by
    obtain ⟨z, h1, h2⟩ := run_zeroValue h.1 h.2 w
    obtain ⟨hc', ht⟩ := hc.alloc hf z.cells t (.box (mkTI P t).zero) ⟨h2 A β H, by simp [zero_ids]⟩
    refine ⟨.pointer (some ⟨w.heap.size, 0, none⟩), _, A, _, ?_, by rw [aAlloc, updF_one]; exact hc', ?_, by rw [aAlloc, updF_one]; exact ht⟩
    · simp [execOp, Instr.alloc, h1, newVar, newRow]
    · simp [aAlloc, RepV, updF]

theorem RepV.cells {w A β H} {x : AV} {v : Value} (h : RepV w A β H x v) (h1 : x.ok1 H) : RepVs w A β H x.cells v.cells.toList := by
  cases x with
  | any => exact h1.elim
  | tup _ => exact h1.elim
  | agg cs =>
    simp only [RepV] at h
    obtain ⟨vs, rfl, h⟩ := h
    exact h
  | d x =>
    have h' := h
    simp only [RepV] at h'
    have : v.cells = #[v] := by
      cases x <;> simp only [RepD] at h'
      · rw [h'.1]; rfl
      · rw [h']; rfl
      · rw [h'.1]; rfl
      · obtain ⟨_, _, e, _⟩ := h'; rw [e]; rfl
    rw [this]; exact ⟨v, [], rfl, h, by simp [RepVs]⟩
  | nils =>
    have h' := h
    simp only [RepV] at h'
    obtain ⟨a, rfl⟩ := h'
    exact ⟨_, [], rfl, h, by simp [RepVs]⟩
  | nl b =>
    have h' := h
    simp only [RepV] at h'
    obtain ⟨a, c, rfl, _⟩ := h'
    exact ⟨_, [], rfl, h, by simp [RepVs]⟩
  | nilp =>
    have h' := h
    simp only [RepV] at h'
    subst h'
    exact ⟨_, [], rfl, h, by simp [RepVs]⟩
  | ref cs =>
    have h' := h
    simp only [RepV] at h'
    obtain ⟨b, o, rfl, _⟩ := h'
    exact ⟨_, [], rfl, h, by simp [RepVs]⟩
  | box id o =>
    have h' := h
    obtain ⟨cs, ho⟩ := liveBox_of h1
    simp only [RepV, ho] at h'
    obtain ⟨b, _, rfl⟩ := h'
    exact ⟨_, [], rfl, h, by simp [RepVs]⟩
  | elt id i o m =>
    have h' := h
    obtain ⟨T, sz, es, ho, hm⟩ := liveArr_of h1
    simp only [RepV, ho] at h'
    obtain ⟨b, _, rfl⟩ := h'.2 hm.symm
    exact ⟨_, [], rfl, h, by simp [RepVs]⟩
  | arr id o m =>
    have h' := h
    obtain ⟨T, sz, es, ho⟩ := isArr_of h1
    simp only [RepV, ho] at h'
    obtain ⟨⟨ad, cap, rfl, _⟩, _⟩ := h'
    exact ⟨_, [], rfl, h, by simp [RepVs]⟩
  | fn f caps =>
    have h' := h
    simp only [RepV] at h'
    obtain ⟨cs, rfl, _⟩ := h'
    exact ⟨_, [], rfl, h, by simp [RepVs]⟩
end Go.AX
set_option linter.unusedVariables false
set_option linter.unusedSimpArgs false
namespace Go.AX

theorem Fresh.eval {nm E H} (h : Fresh nm E H) (x : Operand) : nm ∉ (evalA E x).ids := by
  cases x with
  | tmp t => exact h.2.1 t
  | const v => simp [evalA, zv_ids]
  | global g => simp [evalA, AV.ids]
  | func f => simp [evalA, AV.ids, AV.idsL]

theorem AV.ids_cells (x : AV) : AV.idsL x.cells = x.ids := by
  cases x <;> simp [AV.cells, AV.ids, AV.idsL]

def aBox (nm : Nat) (x : AV) (H : HF) : Out := ⟨x.ok1 H, .box nm 0, [(nm, some (.box x.cells))]⟩

theorem sem_box {P n d nm t x tr p e g E H} (hd : ∀ i, d = some i → i < n) (hf : Fresh nm E H) (h : (aBox nm (evalA E x) H).pre) :
    OSem P n ⟨d, .box t x, tr, p, e, g⟩ E H (aBox nm (evalA E x) H).res (aBox nm (evalA E x) H).upd :=
  OSem.value hd fun A β a w hc => by
    have h2 := (hc.eval x).cells h
    obtain ⟨hc', ht⟩ := hc.alloc hf (a.eval x).cells t (.box (evalA E x).cells) ⟨h2, by rw [AV.ids_cells]; exact hf.eval x⟩
    refine ⟨.pointer (some ⟨w.heap.size, 0, none⟩), _, A, _, ?_, by rw [aBox, updF_one]; exact hc', ?_, by rw [aBox, updF_one]; exact ht⟩
    · simp [execOp, Instr.box, newVar, newRow]
    · simp [aBox, RepV, updF]

def splice {α : Type} (cs : List α) (off : Nat) (xs : List α) : List α := cs.take off ++ xs ++ cs.drop (off + xs.length)

def fillR (place : Nat → Option (Nat × Nat)) : List AV → List (Nat × AV) → List AV
  | cs, [] => cs
  | cs, (i, x) :: r => match place i with
    | some (off, _) => fillR place (splice cs off x.cells) r
    | none => []
def fillP (H : HF) (place : Nat → Option (Nat × Nat)) : List AV → List (Nat × AV) → Prop
  | _, [] => True
  | cs, (i, x) :: r => match place i with
    | some (off, sz) => x.ok1 H ∧ x.cells.length = sz ∧ off + x.cells.length ≤ cs.length ∧ fillP H place (splice cs off x.cells) r
    | none => False

theorem foldl_splice (off : Nat) (l : List Value) (cs : Array Value) (h : off + l.length ≤ cs.size) :
    (l.zipIdx.foldl (fun cs (x : Value × Nat) => cs.setIfInBounds (off + x.2) x.1) cs).toList = splice cs.toList off l := by
  obtain ⟨h1, h2⟩ := Go.Great.foldl_set off l 0 cs
  apply List.ext_getElem?
  intro k
  have h3 := h2 k
  rw [Array.getElem?_toList, h3]
  unfold splice
  by_cases hk : k < off
  · rw [if_neg (by omega), List.append_assoc, List.getElem?_append_left (by simp; omega), List.getElem?_take]
    simp [hk]
  · by_cases hk2 : k < off + l.length
    · rw [if_pos (by omega), List.append_assoc, List.getElem?_append_right (by simp; omega), List.getElem?_append_left (by simp; omega)]
      simp
      congr 1
      omega
    · rw [if_neg (by omega), List.getElem?_append_right (by simp; omega), List.getElem?_drop]
      simp
      congr 1
      omega

theorem RepVs.splice {w A β H} {cs xs : List AV} {vs us : List Value} {off : Nat} (h : RepVs w A β H cs vs) (k : RepVs w A β H xs us) : RepVs w A β H (splice cs off xs) (splice vs off us) := by
  unfold AX.splice
  rw [k.length]
  exact ((h.take off).append k).append (h.drop _)

theorem fill_rep {n E a w A β H} (hc : CfgF n A β E H a w) (place : Nat → Option (Nat × Nat)) : ∀ (parts : List (Nat × Operand)) (cs : List AV) (c : Array Value),
    RepVs w A β H cs c.toList → fillP H place cs (parts.map fun p => (p.1, evalA E p.2)) →
    ∃ c', Instr.fill place c (parts.map fun p => (p.1, a.eval p.2)) = some c' ∧ RepVs w A β H (fillR place cs (parts.map fun p => (p.1, evalA E p.2))) c'.toList
  | [], cs, c, h, _ => ⟨c, rfl, h⟩
  | (i, x) :: r, cs, c, h, hp => by
    simp only [List.map_cons, fillP, fillR, Instr.fill] at hp ⊢
    cases hpl : place i with
    | none => rw [hpl] at hp; exact hp.elim
    | some os =>
      obtain ⟨off, sz⟩ := os
      simp only [hpl] at hp ⊢
      obtain ⟨h1, h2, h3, h4⟩ := hp
      have hx := (hc.eval x).cells h1
      have hl := hx.length
      have hcl := h.length
      have e1 : ¬ ((a.eval x).cells.size ≠ sz || off + (a.eval x).cells.size > c.size) = true := by
        simp at hl hcl ⊢
        omega
      rw [if_neg e1]
      refine fill_rep hc place r _ _ ?_ h4
      have e2 : (a.eval x).cells.zipIdx.foldl (fun cs (x : Value × Nat) => cs.setIfInBounds (off + x.2) x.1) c = (a.eval x).cells.toList.zipIdx.foldl (fun cs (x : Value × Nat) => cs.setIfInBounds (off + x.2) x.1) c := by
        rw [← Array.foldl_toList, Array.toList_zipIdx]
      have e3 := foldl_splice off (a.eval x).cells.toList c (by simp at hl hcl ⊢; omega)
      have h5 := h.splice (off := off) hx
      rw [← e3, ← e2] at h5
      exact h5

def aBuild (P : Program) (t : Nat) (parts : List (Nat × AV)) (H : HF) : Out :=
  match (mkTI P t).k with
  | .struct fs => ⟨(mkTI P t).size ≠ 0 ∧ (mkTI P t).zero.length = (mkTI P t).size ∧ (∀ f ∈ fs, (mkTI P f.2).size ≠ 0) ∧ fillP H (fun i => (fs[i]?).map fun f => (f.1, (mkTI P f.2).size)) (mkTI P t).zero parts,
      .agg (fillR (fun i => (fs[i]?).map fun f => (f.1, (mkTI P f.2).size)) (mkTI P t).zero parts), []⟩
  | .array _ el => ⟨(mkTI P t).size ≠ 0 ∧ (mkTI P t).zero.length = (mkTI P t).size ∧ (mkTI P el).size ≠ 0 ∧ fillP H (fun i => some (i * (mkTI P el).size, (mkTI P el).size)) (mkTI P t).zero parts,
      .agg (fillR (fun i => some (i * (mkTI P el).size, (mkTI P el).size)) (mkTI P t).zero parts), []⟩
  | _ => fail

theorem run_places {P : Program} {w : World} : ∀ (gs : List Field), (∀ f ∈ gs, (mkTI P f.type).size ≠ 0) →
    (gs.mapM (m := Sem) fun f => do pure (f.offset, ← Go.sizeOf f.type)).run P w = .ok (gs.map fun f => (f.offset, (mkTI P f.type).size)) w
  | [], _ => by simp
  | f :: r, h => by
    have ih := run_places (w := w) r fun g hg => h g (by simp [hg])
    simp only [List.mapM_cons, Sem.run_bind, run_sizeOf (h f (by simp)), Result.andThen_ok, Sem.run_pure, ih, List.map_cons]

theorem sem_build {P n d t parts tr p e g E H} (hd : ∀ i, d = some i → i < n) (h : (aBuild P t (parts.toList.map fun p => (p.1, evalA E p.2)) H).pre) :
    OSem P n ⟨d, .build t parts, tr, p, e, g⟩ E H (aBuild P t (parts.toList.map fun p => (p.1, evalA E p.2)) H).res [] :=
  OSem.pure hd fun A β a w hc => by
    unfold aBuild at h ⊢
    split at h
    · rename_i fs hk
      obtain ⟨h1, h2, h3, h4⟩ := h
      obtain ⟨z, hz, hzr⟩ := run_zeroValue h1 h2 w
      obtain ⟨gs, hu, rfl⟩ := und_struct hk
      obtain ⟨c', hc1, hc2⟩ := fill_rep hc _ parts.toList _ z.cells (hzr A β H) h4
      refine ⟨.agg c', ?_, by simp only [RepV]; exact ⟨c', rfl, hc2⟩⟩
      have e1 : (parts.map fun (x : Nat × Operand) => (x.1, a.eval x.2)).toList = parts.toList.map fun p => (p.1, a.eval p.2) := by simp
      have e2 : (gs.mapM (m := Sem) fun f => do pure (f.offset, ← Go.sizeOf f.type)).run P w = .ok (gs.map fun f => (f.offset, (mkTI P f.type).size)) w := by
        have := run_places (P := P) (w := w) gs.toList fun f hf => h3 (f.offset, f.type) (by simp; exact ⟨f, by simpa using hf, rfl, rfl⟩)
        rw [← Array.toArray_toList (xs := gs), List.mapM_toArray]
        simp only [Sem.run_map, this, Result.andThen_ok]
        congr 1
        apply Array.ext'
        simp
      have e3 : (fun (i : Nat) => (gs.map fun (f : Field) => (f.offset, (mkTI P f.type).size))[i]?) = fun (i : Nat) => ((gs.toList.map fun (f : Field) => (f.offset, f.type))[i]?).map fun (f : Nat × Nat) => (f.1, (mkTI P f.2).size) := by
        funext i; simp [Function.comp_def]
      simp only [execOp, Instr.build, hz, run_underlying hu, Sem.run_bind, Sem.run_pure, Result.andThen_ok, e2, e1, e3, hc1]
    · rename_i el hk
      obtain ⟨h1, h2, h3, h4⟩ := h
      obtain ⟨z, hz, hzr⟩ := run_zeroValue h1 h2 w
      obtain ⟨c', hc1, hc2⟩ := fill_rep hc _ parts.toList _ z.cells (hzr A β H) h4
      refine ⟨.agg c', ?_, by simp only [RepV]; exact ⟨c', rfl, hc2⟩⟩
      have e1 : (parts.map fun (x : Nat × Operand) => (x.1, a.eval x.2)).toList = parts.toList.map fun p => (p.1, a.eval p.2) := by simp
      simp only [execOp, Instr.build, hz, run_underlying (und_array hk), Sem.run_bind, Sem.run_pure, Result.andThen_ok, run_sizeOf h3, e1, hc1]
    · exact h.elim
end Go.AX
set_option linter.unusedVariables false
set_option linter.unusedSimpArgs false
namespace Go.AX

theorem RepDs.of_get {w A} : ∀ {ds : List D} {vs : List Value}, vs.length = ds.length → (∀ (j : Nat) (d : D) (v : Value), ds[j]? = some d → vs[j]? = some v → RepD w A d v) → RepDs w A ds vs
  | [], vs, h, _ => by simp only [RepDs]; exact List.eq_nil_of_length_eq_zero (by simpa using h)
  | d :: r, [], h, _ => by simp at h
  | d :: r, v :: vs, h, k => by
    simp only [RepDs]
    exact ⟨v, vs, rfl, k 0 d v rfl rfl, RepDs.of_get (by simpa using h) fun j d' v' h1 h2 => k (j + 1) d' v' (by simpa using h1) (by simpa using h2)⟩

theorem RepDs.get {w A} : ∀ {ds : List D} {vs : List Value}, RepDs w A ds vs → ∀ (j : Nat) (d : D) (v : Value), ds[j]? = some d → vs[j]? = some v → RepD w A d v
  | [], vs, h, j, d, v, h1, _ => by simp at h1
  | x :: r, vs, h, j, d, v, h1, h2 => by
    simp only [RepDs] at h
    obtain ⟨u, t, rfl, hd, h⟩ := h
    cases j with
    | zero => simp at h1 h2; subst h1; subst h2; exact hd
    | succ j => exact RepDs.get h j d v (by simpa using h1) (by simpa using h2)

def zD : List AV → List D
  | [] => []
  | .d x :: r => x :: zD r
  | _ :: r => .sl [] :: zD r
def zDp : List AV → Prop
  | [] => True
  | .d _ :: r => zDp r
  | .nils :: r => zDp r
  | _ => False

theorem zD_rep {w A β H} : ∀ {xs : List AV} {vs : List Value}, zDp xs → RepVs w A β H xs vs → RepDs w A (zD xs) vs
  | [], vs, _, h => by simpa only [RepVs, zD, RepDs] using h
  | x :: r, vs, hp, h => by
    simp only [RepVs] at h
    obtain ⟨v, t, rfl, hx, h⟩ := h
    cases x with
    | d y => simp only [zD, RepDs]; exact ⟨v, t, rfl, by simpa only [RepV] using hx, zD_rep (by simpa only [zDp] using hp) h⟩
    | nils =>
      simp only [zD, RepDs]
      simp only [RepV] at hx
      obtain ⟨a, rfl⟩ := hx
      refine ⟨_, t, rfl, ?_, zD_rep (by simpa only [zDp] using hp) h⟩
      simp only [RepD]
      exact ⟨a, 0, by simp, by simp, trivial, by simp⟩
    | _ => simp only [zDp] at hp

theorem zD_length : ∀ (xs : List AV), (zD xs).length = xs.length
  | [] => rfl
  | x :: r => by cases x <;> simp [zD, zD_length r]

theorem replicate_flatten_get (z : List D) : ∀ (k j : Nat), j < k * z.length → (List.replicate k z).flatten[j]? = z[j % z.length]?
  | 0, j, h => by simp at h
  | k + 1, j, h => by
    simp only [List.replicate_succ, List.flatten_cons]
    by_cases hj : j < z.length
    · rw [List.getElem?_append_left hj, Nat.mod_eq_of_lt hj]
    · rw [List.getElem?_append_right (by omega), replicate_flatten_get z k (j - z.length) (by rw [Nat.add_mul] at h; omega)]
      congr 1
      conv => rhs; rw [show j = (j - z.length) + z.length by omega, Nat.add_mod_right]

theorem made_rep {w A} {z : List D} {c : Array Value} (h : RepDs w A z c.toList) (k : Nat) : RepDs w A (List.replicate k z).flatten (madeCells c (k * c.size)).toList := by
  have hl := h.length
  simp at hl
  refine RepDs.of_get (by simp [size_madeCells, hl]) fun j d v h1 h2 => ?_
  have hj : j < k * c.size := by
    have := (List.getElem?_eq_some_iff.1 h2).1
    simpa [size_madeCells] using this
  rw [replicate_flatten_get z k j (by rw [← hl]; exact hj)] at h1
  have hz : 0 < c.size := by
    rcases Nat.eq_zero_or_pos c.size with h0 | h0
    · rw [h0] at hj; simp at hj
    · exact h0
  have hm : j % c.size < c.size := Nat.mod_lt _ hz
  have e : v = c[j % c.size] := by
    simp only [madeCells, Array.toList_map, Array.toList_range, List.getElem?_map, Option.map_eq_some_iff] at h2
    obtain ⟨j', h3, h4⟩ := h2
    rw [List.getElem?_range (by simpa using hj)] at h3
    cases h3
    rw [← h4]
    simp [hm]
  rw [e]
  refine h.get (j % c.size) d _ (by rw [hl]; exact h1) ?_
  simp [hm]

def aMake (P : Program) (nm t : Nat) (l c : AV) : Out :=
  match l, c with
  | .d (.int _ m), .d (.int _ m') => ⟨(mkTI P t).k.isSl = true ∧ (mkTI P (mkTI P t).k.el).size ≠ 0 ∧ (mkTI P (mkTI P t).k.el).zero.length = (mkTI P (mkTI P t).k.el).size ∧ zDp (mkTI P (mkTI P t).k.el).zero ∧ 0 ≤ m ∧ m = m' ∧ (mkTI P (mkTI P t).k.el).bytes * m ≤ 281474976710656 ∧ m ≤ 281474976710656,
      .arr nm 0 m.toNat, [(nm, some (.arr (mkTI P t).k.el (mkTI P (mkTI P t).k.el).size (List.replicate m.toNat (zD (mkTI P (mkTI P t).k.el).zero))))]⟩
  | _, _ => fail

theorem sem_make {P n d nm t l c tr p e g E H} (hd : ∀ i, d = some i → i < n) (hf : Fresh nm E H) (h : (aMake P nm t (evalA E l) (evalA E c)).pre) :
    OSem P n ⟨d, .makeSlice t l c, tr, p, e, g⟩ E H (aMake P nm t (evalA E l) (evalA E c)).res (aMake P nm t (evalA E l) (evalA E c)).upd :=
  OSem.value hd fun A β a w hc => by
    have h2 := hc.eval l
    have h3 := hc.eval c
    generalize evalA E l = L at *
    generalize evalA E c = C at *
    unfold aMake at h ⊢
    split at h
    · rename_i k m k' m'
      obtain ⟨g1, g2, g3, g4, g5, rfl, g7, g8⟩ := h
      simp only [RepV, RepD] at h2 h3
      obtain ⟨el, hel⟩ := TK.sl_of g1
      have hu := und_slice hel
      have hel' : (mkTI P t).k.el = el := by rw [hel]; rfl
      simp only [hel'] at g2 g3 g4 g7 ⊢
      obtain ⟨i, hi, hs, hby, hz⟩ := info_of g2
      cases hzz : i.zero with
      | none => rw [hzz] at hz; rw [hz] at g3; simp at g3; omega
      | some z =>
        rw [hzz] at hz
        have hz' : (mkTI P el).zero = z.cells.toList.map zv := hz
        have hzr : RepVs w A β H (mkTI P el).zero z.cells.toList := by
          rw [hz']
          generalize z.cells.toList = l
          induction l with
          | nil => simp [RepVs]
          | cons x r ih => simp only [List.map_cons, RepVs]; exact ⟨x, _, rfl, zv_rep x, ih⟩
        have hzd := zD_rep g4 hzr
        have hcs : z.cells.size = (mkTI P el).size := by rw [← g3, hz']; simp
        have hrun := run_make (P := P) w t el i z hu hi hzz k k' m m g5 (Int.le_refl _) (by rw [hby]; exact g7) (by omega)
        rw [hs, ← hcs] at hrun
        have hlen : (List.replicate m.toNat (zD (mkTI P el).zero)).length = m.toNat := by simp
        obtain ⟨hc', ht⟩ := hc.alloc hf (madeCells z.cells (m.toNat * z.cells.size)) el (.arr el (mkTI P el).size (List.replicate m.toNat (zD (mkTI P el).zero)))
          ⟨rfl, by rw [hlen]; simp only [LB]; omega, by rw [hlen, size_madeCells, hcs]; exact Nat.le_refl _, fun e he => by
            rw [List.mem_replicate] at he; rw [he.2, zD_length, g3], _, [], by simp, made_rep hzd m.toNat⟩
        refine ⟨_, _, A, _, by simp only [execOp, h2.1, h3.1, hrun, Sem.run_bind, Sem.run_pure, Result.andThen_ok]; try rfl, by rw [updF_one]; exact hc', ?_, by rw [updF_one]; exact ht⟩
        simp only [RepV, updF, if_true, RepArr, hlen]
        refine ⟨⟨_, _, rfl, Nat.le_refl _⟩, by omega, fun _ => .inr ⟨w.heap.size, ⟨w.heap.size, 0, none⟩, m.toNat, rfl, rfl, .inr (by simp), ?_, by omega⟩⟩
        simp only [blkSize, heap_alloc_new w _, size_madeCells, hcs, Nat.zero_add]
    · exact h.elim

theorem RepEs_one {w A b} : ∀ (ds : List D) (o : Nat), (∀ j d, ds[j]? = some d → ∃ v, w.cell? ⟨b, o + j, none⟩ = some v ∧ RepD w A d v) → RepEs w A b 1 o (ds.map fun d => [d])
  | [], o, _ => by simp only [List.map_nil, RepEs]
  | d :: r, o, h => by
    simp only [List.map_cons, RepEs, RepCs]
    refine ⟨rfl, ⟨by simpa using h 0 d (by simp), trivial⟩, RepEs_one r (o + 1) fun j d' hj => ?_⟩
    have := h (j + 1) d' (by simpa using hj)
    rwa [show o + (j + 1) = o + 1 + j by omega] at this
theorem CfgF.frozen_box {n A β E H a w} (h : CfgF n A β E H a w) {id} {ds : List D} (ho : H id = some (.box (ds.map AV.d))) {off len v} (hv : RepV w A β H (.arr id off len) v) (hs : off + len ≤ ds.length) :
    RepD w (fun b => A b ∨ (H id ≠ none ∧ β id = some b)) (.sl (((ds.map fun d => [d]).drop off).take len)) v := by
  simp only [RepV, ho] at hv
  obtain ⟨b, ad, cap, hb, rfl, hcap, ha, _⟩ := hv
  obtain ⟨b', c, T, hb', hc, hr⟩ := h.heap.box id _ ho
  rw [hb] at hb'; cases hb'
  have hr := RepVs_d.1 hr
  have hlen : (((ds.map fun d => [d]).drop off).take len).length = len := by simp; omega
  simp only [RepD]
  refine ⟨some ad, cap, by rw [hlen], by rw [hlen]; exact hcap, trivial, ?_⟩
  by_cases hz : len = 0
  · exact .inl (by simp [hz])
  rcases ha with ha | ha
  · omega
  subst ha
  refine .inr ⟨b, off, 1, rfl, .inr ⟨by simp [ho], hb⟩, ?_⟩
  rw [← List.map_drop, ← List.map_take]
  refine RepEs_one _ _ fun j d hj => ?_
  rw [List.getElem?_take] at hj
  split at hj
  · rw [List.getElem?_drop] at hj
    have hr' : RepVs w A β H (ds.map AV.d) c.toList := RepVs_d.2 hr
    obtain ⟨u, h1, h2⟩ := hr'.get (off + j) (.d d) (by rw [List.getElem?_map, hj]; rfl)
    simp only [RepV] at h2
    exact ⟨u, by simpa [World.cell?, hc] using h1, RepD.stable (fun b hb => .inl hb) (fun _ _ => rfl) _ _ h2⟩
  · cases hj
theorem CfgF.frozen_pre {n A β E H a w} (h : CfgF n A β E H a w) {id} {ds : List D} (ho : H id = some (.pre ds)) {off len v} (hv : RepV w A β H (.arr id off len) v) (hs : off + len ≤ ds.length) :
    RepD w (fun b => A b ∨ (H id ≠ none ∧ β id = some b)) (.sl (((ds.map fun d => [d]).drop off).take len)) v := by
  simp only [RepV, ho] at hv
  obtain ⟨b, ad, cap, hb, rfl, hcap, ha, _⟩ := hv
  obtain ⟨b', c, T, us, ws, hb', hc, hcs, hr⟩ := h.heap.pre id _ ho
  rw [hb] at hb'; cases hb'
  have hlen : (((ds.map fun d => [d]).drop off).take len).length = len := by simp; omega
  simp only [RepD]
  refine ⟨some ad, cap, by rw [hlen], by rw [hlen]; exact hcap, trivial, ?_⟩
  by_cases hz : len = 0
  · exact .inl (by simp [hz])
  rcases ha with ha | ha
  · omega
  subst ha
  refine .inr ⟨b, off, 1, rfl, .inr ⟨by simp [ho], hb⟩, ?_⟩
  rw [← List.map_drop, ← List.map_take]
  refine RepEs_one _ _ fun j d hj => ?_
  rw [List.getElem?_take] at hj
  split at hj
  · rw [List.getElem?_drop] at hj
    obtain ⟨u, h1, h2⟩ := hr.get (off + j) (.d d) (by rw [List.getElem?_map, hj]; rfl)
    simp only [RepV] at h2
    have hlt : off + j < us.length := by
      rcases Nat.lt_or_ge (off + j) us.length with h | h
      · exact h
      · rw [List.getElem?_eq_none h] at h1; cases h1
    have h5 : c.toList[off + j]? = some u := by rw [hcs, List.getElem?_append_left hlt]; exact h1
    exact ⟨u, by simpa [World.cell?, hc] using h5, RepD.stable (fun b hb => .inl hb) (fun _ _ => rfl) _ _ h2⟩
  · cases hj
def avD (H : HF) : AV → D
  | .d x => x
  | .nils => .sl []
  | .arr id off len => match H id with
    | some (.arr _ _ es) => .sl ((es.drop off).take len)
    | some (.pre ds) => .sl (((ds.map fun d => [d]).drop off).take len)
    | _ => .sl []
  | _ => .sl []
def avDp (H : HF) : AV → Prop
  | .d _ => True
  | .nils => True
  | .arr id off len => match H id with
    | some (.arr _ _ es) => off + len = es.length
    | some (.pre ds) => off + len ≤ ds.length
    | _ => False
  | _ => False
def avDps (H : HF) : List AV → Prop
  | [] => True
  | x :: r => avDp H x ∧ avDps H r

def dead (H : HF) (ids : List Nat) : HF := fun i => if i ∈ ids then none else H i

theorem updF_dead (H : HF) (ids : List Nat) : updF H (ids.map fun i => (i, none)) = dead H ids := by
  funext i
  induction ids with
  | nil => simp [updF, dead]
  | cons x r ih =>
    simp only [List.map_cons, updF, ih, dead]
    by_cases h : i = x <;> simp [h]

/-- Freeze several objects. -/
theorem CfgF.freezes {n A β E H a w} (h : CfgF n A β E H a w) (ids : List Nat) :
    CfgF n (fun b => A b ∨ ∃ i ∈ ids, H i ≠ none ∧ β i = some b) β E (dead H ids) a w ∧
    Trans w A β H w (fun b => A b ∨ ∃ i ∈ ids, H i ≠ none ∧ β i = some b) β (dead H ids) := by
  induction ids generalizing A H with
  | nil =>
    have e1 : dead H [] = H := by funext i; simp [dead]
    have e2 : (fun b => A b ∨ ∃ i ∈ ([] : List Nat), H i ≠ none ∧ β i = some b) = A := by funext b; simp
    rw [e1, e2]
    exact ⟨h, Trans.refl _ _ _ _⟩
  | cons x r ih =>
    obtain ⟨h1, t1⟩ := h.freeze x
    obtain ⟨h2, t2⟩ := ih h1
    have e1 : dead (fun i => if i = x then none else H i) r = dead H (x :: r) := by
      funext i
      simp only [dead, List.mem_cons]
      by_cases hx : i = x <;> by_cases hr : i ∈ r <;> simp [hx, hr]
    have e2 : (fun b => (A b ∨ (H x ≠ none ∧ β x = some b)) ∨ ∃ i ∈ r, (if i = x then none else H i) ≠ none ∧ β i = some b) = (fun b => A b ∨ ∃ i ∈ x :: r, H i ≠ none ∧ β i = some b) := by
      funext b
      apply propext
      constructor
      · rintro ((h | ⟨h, k⟩) | ⟨i, hi, h, k⟩)
        · exact .inl h
        · exact .inr ⟨x, by simp, h, k⟩
        · by_cases e : i = x
          · simp [e] at h
          · exact .inr ⟨i, by simp [hi], by simpa [e] using h, k⟩
      · rintro (h | ⟨i, hi, h, k⟩)
        · exact .inl (.inl h)
        · by_cases e : i = x
          · subst e; exact .inl (.inr ⟨h, k⟩)
          · exact .inr ⟨i, by simpa [e] using hi, by simpa [e] using h, k⟩
    rw [e1, e2] at h2
    rw [e1, e2] at t2
    exact ⟨h2, t1.comp t2 fun i h3 h4 => by
      simp only [dead]
      by_cases e : i = x
      · simp [e]
      · simp only [e, if_false] at h4; exact absurd h4 h3⟩

theorem CfgF.avD_rep {n A β E H a w} (h : CfgF n A β E H a w) (ids : List Nat) {x : AV} {v : Value} (hx : RepV w A β H x v) (hp : avDp H x) (hi : ∀ i ∈ x.ids, i ∈ ids) :
    RepD w (fun b => A b ∨ ∃ i ∈ ids, H i ≠ none ∧ β i = some b) (avD H x) v := by
  cases x with
  | d y =>
    simp only [RepV] at hx
    exact RepD.stable (fun _ h => .inl h) (fun _ _ => rfl) _ _ hx
  | nils =>
    simp only [RepV] at hx
    obtain ⟨a, rfl⟩ := hx
    simp only [avD, RepD]
    exact ⟨a, 0, by simp, by simp, trivial, by simp⟩
  | arr id off len =>
    simp only [avDp] at hp
    split at hp
    · rename_i T sz es ho
      have h1 := h.frozen_rep ho hx hp
      simp only [avD, ho]
      refine RepD.stable (fun b hb => ?_) (fun _ _ => rfl) _ _ h1
      rcases hb with hb | ⟨h2, h3⟩
      · exact .inl hb
      · exact .inr ⟨id, hi id (by simp [AV.ids]), h2, h3⟩
    · rename_i ds ho
      have h1 := h.frozen_pre ho hx hp
      simp only [avD, ho]
      refine RepD.stable (fun b hb => ?_) (fun _ _ => rfl) _ _ h1
      rcases hb with hb | ⟨h2, h3⟩
      · exact .inl hb
      · exact .inr ⟨id, hi id (by simp [AV.ids]), h2, h3⟩
    · exact hp.elim
  | _ => exact hp.elim

theorem CfgF.avDs_rep {n A β E H a w} (h : CfgF n A β E H a w) (ids : List Nat) : ∀ {xs : List AV} {vs : List Value}, RepVs w A β H xs vs → avDps H xs → (∀ i ∈ AV.idsL xs, i ∈ ids) →
    RepDs w (fun b => A b ∨ ∃ i ∈ ids, H i ≠ none ∧ β i = some b) (xs.map (avD H)) vs
  | [], vs, hx, _, _ => by simpa only [RepVs, List.map_nil, RepDs] using hx
  | x :: r, vs, hx, hp, hi => by
    simp only [RepVs] at hx
    obtain ⟨v, t, rfl, h1, h2⟩ := hx
    simp only [List.map_cons, RepDs]
    exact ⟨v, t, rfl, h.avD_rep ids h1 hp.1 (fun i hm => hi i (by simp [AV.idsL, hm])), h.avDs_rep ids h2 hp.2 (fun i hm => hi i (by simp [AV.idsL, hm]))⟩

theorem Fresh.dead {nm E H} (h : Fresh nm E H) (ids : List Nat) : Fresh nm E (dead H ids) := by
  refine ⟨?_, h.2.1, fun j o ho => ?_⟩
  · simp only [AX.dead]; split
    · rfl
    · exact h.1
  · simp only [AX.dead] at ho
    split at ho
    · cases ho
    · exact h.2.2 j o ho
end Go.AX
set_option linter.unusedVariables false
set_option linter.unusedSimpArgs false
namespace Go.AX

def dense : Nat → List (Nat × AV) → Prop
  | _, [] => True
  | k, (i, _) :: r => i = k ∧ dense (k + 1) r
def elP (H : HF) (sz : Nat) : List (Nat × AV) → Prop
  | [] => True
  | (_, x) :: r => x.ok1 H ∧ x.cells.length = sz ∧ avDps H x.cells ∧ elP H sz r

def aBuildSlice (P : Program) (nm t len : Nat) (parts : List (Nat × AV)) (H : HF) : Out :=
  ⟨(mkTI P t).k.isSl = true ∧ (mkTI P (mkTI P t).k.el).size ≠ 0 ∧ (mkTI P (mkTI P t).k.el).zero.length = (mkTI P (mkTI P t).k.el).size ∧ len * (mkTI P (mkTI P t).k.el).size ≤ 16777216 ∧ parts.length = len ∧ dense 0 parts ∧ elP H (mkTI P (mkTI P t).k.el).size parts,
    .arr nm 0 len, (nm, some (.arr (mkTI P t).k.el (mkTI P (mkTI P t).k.el).size (parts.map fun p => p.2.cells.map (avD H)))) :: (AV.idsL (parts.map (·.2))).map fun i => (i, none)⟩

theorem dense_zip (a : Act) (E : EF) : ∀ (parts : List (Nat × Operand)) (k : Nat), dense k (parts.map fun p => (p.1, evalA E p.2)) →
    parts.map (fun p => (p.1, a.eval p.2)) = ((parts.map fun p => a.eval p.2).zipIdx k).map fun x => (x.2, x.1)
  | [], _, _ => rfl
  | (i, x) :: r, k, h => by
    simp only [List.map_cons, dense] at h
    obtain ⟨rfl, h⟩ := h
    simp only [List.map_cons, List.zipIdx_cons, dense_zip a E r (i + 1) h]

theorem build_rep {n A β E H a w} (hc : CfgF n A β E H a w) (ids : List Nat) (sz : Nat) : ∀ (parts : List (Nat × Operand)), elP H sz (parts.map fun p => (p.1, evalA E p.2)) →
    (∀ i ∈ AV.idsL ((parts.map fun p => (p.1, evalA E p.2)).map (·.2)), i ∈ ids) →
    (∀ v ∈ parts.map fun p => a.eval p.2, v.cells.size = sz) ∧
    (∀ e ∈ (parts.map fun p => (p.1, evalA E p.2)).map fun p => p.2.cells.map (avD H), e.length = sz) ∧
    RepDs w (fun b => A b ∨ ∃ i ∈ ids, H i ≠ none ∧ β i = some b) ((parts.map fun p => (p.1, evalA E p.2)).map fun p => p.2.cells.map (avD H)).flatten ((parts.map fun p => a.eval p.2).flatMap fun v => v.cells.toList)
  | [], _, _ => by simp [RepDs]
  | (i, x) :: r, h, hi => by
    simp only [List.map_cons, elP] at h
    obtain ⟨h1, h2, h3, h4⟩ := h
    simp only [List.map_cons, AV.idsL] at hi
    obtain ⟨g1, g2, g3⟩ := build_rep hc ids sz r h4 fun i hm => hi i (List.mem_append.2 (.inr hm))
    have hx := (hc.eval x).cells h1
    have hl := hx.length
    refine ⟨?_, ?_, ?_⟩
    · intro v hv
      simp only [List.map_cons, List.mem_cons] at hv
      rcases hv with rfl | hv
      · simp at hl; omega
      · exact g1 v hv
    · intro e he
      simp only [List.map_cons, List.mem_cons] at he
      rcases he with rfl | he
      · simp [h2]
      · exact g2 e he
    · simp only [List.map_cons, List.flatten_cons, List.flatMap_cons]
      exact (hc.avDs_rep ids hx h3 fun i hm => hi i (List.mem_append.2 (.inl (by rwa [AV.ids_cells] at hm)))).append g3

theorem updF_cons_dead (H : HF) (nm : Nat) (o : Option AObj) (ids : List Nat) : updF H ((nm, o) :: ids.map fun i => (i, none)) = fun i => if i = nm then o else dead H ids i := by
  funext i; simp only [updF, updF_dead]

theorem sem_buildSlice {P n d nm t len parts tr p e g E H} (hd : ∀ i, d = some i → i < n) (hf : Fresh nm E H) (h : (aBuildSlice P nm t len (parts.toList.map fun p => (p.1, evalA E p.2)) H).pre) :
    OSem P n ⟨d, .buildSlice t len parts, tr, p, e, g⟩ E H (aBuildSlice P nm t len (parts.toList.map fun p => (p.1, evalA E p.2)) H).res (aBuildSlice P nm t len (parts.toList.map fun p => (p.1, evalA E p.2)) H).upd :=
  OSem.value hd fun A β a w hc => by
    obtain ⟨g1, g2, g3, g4, g5, g6, g7⟩ := h
    obtain ⟨el, hel⟩ := TK.sl_of g1
    have hu := und_slice hel
    have hel' : (mkTI P t).k.el = el := by rw [hel]; rfl
    unfold aBuildSlice
    simp only [hel'] at g2 g3 g4 g7 ⊢
    obtain ⟨z, hz, hzr⟩ := run_zeroValue g2 g3 w
    generalize hids : AV.idsL ((parts.toList.map fun p => (p.1, evalA E p.2)).map (·.2)) = ids
    obtain ⟨h1, h2, h3⟩ := build_rep hc ids (mkTI P el).size parts.toList g7 (by rw [hids]; exact fun i h => h)
    obtain ⟨hc1, ht1⟩ := hc.freezes ids
    have hlen : parts.toList.length = len := by simpa using g5
    have hfl : ((parts.toList.map fun p => a.eval p.2).flatMap fun v => v.cells.toList).length = len * (mkTI P el).size := by
      have := h3.length
      rw [this, List.length_flatten]
      have e : ((parts.toList.map fun p => (p.1, evalA E p.2)).map fun p => p.2.cells.map (avD H)).map List.length = List.replicate len (mkTI P el).size := by
        rw [List.eq_replicate_iff]
        refine ⟨by rw [List.length_map, List.length_map, List.length_map]; exact hlen, fun b hb => ?_⟩
        rw [List.mem_map] at hb
        obtain ⟨e, he, rfl⟩ := hb
        exact h2 e he
      rw [e]; simp
    obtain ⟨hc2, ht2⟩ := hc1.alloc (hf.dead ids) ((parts.toList.map fun p => a.eval p.2).flatMap fun v => v.cells.toList).toArray el
      (.arr el (mkTI P el).size ((parts.toList.map fun p => (p.1, evalA E p.2)).map fun p => p.2.cells.map (avD H)))
      ⟨rfl, by simp only [List.length_map, hlen, LB]; have := Nat.le_mul_of_pos_right len (Nat.pos_of_ne_zero g2); omega,
        by simp only [List.length_map, hlen, List.size_toArray, hfl]; exact Nat.le_refl _, h2, _, [], by simp, h3⟩
    refine ⟨.slice (some ⟨w.heap.size, 0, none⟩) len len, _, _, _, ?_, by rw [updF_cons_dead]; exact hc2, ?_, ?_⟩
    · have e1 : (parts.map fun (x : Nat × Operand) => (x.1, a.eval x.2)).toList = parts.toList.map fun p => (p.1, a.eval p.2) := by simp
      have e2 := dense_zip a E parts.toList 0 g6
      have hns : ¬ len * (mkTI P el).size > 2 ^ 24 := by omega
      by_cases h0 : len * (mkTI P el).size = 0
      · have hfw := Go.Great.fill_whole (s := (mkTI P el).size) (Nat.pos_of_ne_zero g2) (parts.toList.map fun p => a.eval p.2) ((Array.range (len * (mkTI P el).size)).map ((#[] : Array Value)[· % (#[] : Array Value).size]!)) h1 (by simp [hlen])
        rw [h0] at hfw hns
        simp only [execOp, Instr.buildSlice, run_underlying hu, Sem.run_bind, Sem.run_pure, Result.andThen_ok, run_sizeOf g2, h0, hns, if_false, if_true, e1, e2, hfw, newRow, run_newObj]
        rfl
      · have hfw := Go.Great.fill_whole (s := (mkTI P el).size) (Nat.pos_of_ne_zero g2) (parts.toList.map fun p => a.eval p.2) ((Array.range (len * (mkTI P el).size)).map (z.cells[· % z.cells.size]!)) h1 (by simp [hlen])
        simp only [execOp, Instr.buildSlice, run_underlying hu, Sem.run_bind, Sem.run_pure, Result.andThen_ok, run_sizeOf g2, hns, if_false, h0, e1, e2, hz, hfw, newRow, run_newObj]
        rfl
    · simp only [updF_cons_dead, RepV, if_true, RepArr, List.length_map, hlen, g5]
      refine ⟨⟨_, _, rfl, Nat.le_refl _⟩, by omega, fun _ => .inr ⟨w.heap.size, ⟨w.heap.size, 0, none⟩, len, rfl, rfl, .inr (by simp), ?_, ?_⟩⟩
      · simp only [blkSize, heap_alloc_new w _, List.size_toArray, hfl, Nat.zero_add]
      · have := Nat.le_mul_of_pos_right len (Nat.pos_of_ne_zero g2); omega
    · rw [updF_cons_dead]
      refine ht1.comp ht2 fun i h4 h5 => ?_
      by_cases e : i = nm
      · subst e; exact absurd hf.1 h4
      · simp only [e, if_false]; exact h5
end Go.AX
set_option linter.unusedVariables false
set_option linter.unusedSimpArgs false
namespace Go.AX

/-- The elements of a slice that is read. -/
def esOf (H : HF) : AV → List (List D)
  | .d (.sl es) => es
  | .arr id off len => match H id with
    | some (.arr _ _ es) => (es.drop off).take len
    | _ => []
  | _ => []
def esOfP (H : HF) : AV → Prop
  | .d (.sl _) => True
  | .nils => True
  | .nl _ => True
  | .arr id off len => match H id with
    | some (.arr _ _ es) => off + len = es.length
    | _ => False
  | _ => False

theorem esOf_rep {n A β E H a w} (hc : CfgF n A β E H a w) {x : AV} {v : Value} (hx : RepV w A β H x v) (hp : esOfP H x) (sz : Nat) (hs : ∀ e ∈ esOf H x, e.length = sz) :
    ∃ ad c news, v = .slice ad (esOf H x).length c ∧ news.length = (esOf H x).length * sz ∧ RepDs w A (esOf H x).flatten news ∧ sized (esOf H x).length ∧
      ((esOf H x).length = 0 ∨ ∃ b o, ad = some ⟨b, o, none⟩ ∧ ∀ (j : Nat) (u : Value), news[j]? = some u → w.cell? ⟨b, o + j, none⟩ = some u) := by
  cases x with
  | d y =>
    cases y with
    | sl es =>
      simp only [RepV, RepD] at hx
      obtain ⟨ad, cap, rfl, h1, h2, h3⟩ := hx
      simp only [esOf] at hs ⊢
      rcases h3 with h3 | ⟨b, o, s, rfl, hA, hr⟩
      · subst h3; exact ⟨ad, cap, [], rfl, by simp, by simp [RepDs], h2, .inl rfl⟩
      · cases es with
        | nil => exact ⟨_, cap, [], rfl, by simp, by simp [RepDs], h2, .inl rfl⟩
        | cons e0 r =>
          have hse : s = sz := by
            rw [← hs e0 (by simp)]
            exact ((hr.get 0 e0 (by simp)).1).symm
          subst hse
          obtain ⟨_, vs, h4, h5, h6⟩ := hr.values
          exact ⟨_, cap, vs, rfl, h4, h5, h2, .inr ⟨b, o, rfl, h6⟩⟩
    | _ => exact hp.elim
  | nils =>
    simp only [RepV] at hx
    obtain ⟨ad, rfl⟩ := hx
    exact ⟨ad, 0, [], rfl, by simp [esOf], by simp [esOf, RepDs], trivial, .inl rfl⟩
  | nl b =>
    simp only [RepV] at hx
    obtain ⟨ad, c, rfl, _⟩ := hx
    exact ⟨ad, c, [], rfl, by simp [esOf], by simp [esOf, RepDs], trivial, .inl rfl⟩
  | arr id off len =>
    simp only [esOfP] at hp
    split at hp
    · rename_i T s es ho
      have hol : off ≤ es.length := by omega
      simp only [RepV, ho] at hx
      obtain ⟨⟨a0, c0, rfl, hc0⟩, _, h3⟩ := hx
      obtain ⟨hLB, h2⟩ := hc.heap.arr id T s es ho
      have hl : ((es.drop off).take len).length = len := by simp; omega
      simp only [esOf, ho] at hs ⊢
      rw [hl]
      by_cases h0 : len = 0
      · subst h0; exact ⟨a0, c0, [], rfl, by simp, by simp [RepDs], trivial, .inl rfl⟩
      rcases h3 hp with ⟨_, _, a1, hv⟩ | ⟨b, a1, cap, hb, hv, ha, _⟩
      · cases hv; clear h3; omega
      · cases hv
        clear h3
        rcases ha with ha | ha
        · omega
        · subst ha
          rcases h2 with ⟨h2, _⟩ | ⟨b', c, hb', hcc, hle, hr⟩
          · rw [hb] at h2; cases h2
          rw [hb] at hb'; cases hb'
          have h5 := RepEs.take len (RepEs.drop off hr hol)
          rw [Nat.zero_add] at h5
          have hse : s = sz := by
            cases hd : (es.drop off).take len with
            | nil => rw [hd] at hl; simp at hl; omega
            | cons e0 r =>
              rw [hd] at h5 hs
              rw [← hs e0 (by simp)]
              exact ((h5.get 0 e0 (by simp)).1).symm
          subst hse
          obtain ⟨_, vs, h6, h7, h8⟩ := h5.values
          exact ⟨_, _, vs, rfl, by rw [h6, hl], h7, trivial, .inr ⟨b, _, rfl, h8⟩⟩
    · exact hp.elim
  | _ => exact hp.elim

theorem RepDs.oneCell {w A} : ∀ {ds : List D} {vs : List Value}, RepDs w A ds vs → ∀ u ∈ vs, u.oneCell' = true
  | [], vs, h, u, hu => by simp only [RepDs] at h; rw [h] at hu; simp at hu
  | d :: r, vs, h, u, hu => by
    simp only [RepDs] at h
    obtain ⟨v, t, rfl, hd, h⟩ := h
    rcases List.mem_cons.1 hu with rfl | hu
    · exact RepD.oneCell hd
    · exact RepDs.oneCell h u hu

def dsOf : List AV → List D
  | .d x :: r => x :: dsOf r
  | _ => []
def allDs : List AV → Prop
  | [] => True
  | .d _ :: r => allDs r
  | _ => False
theorem dsOf_eq : ∀ {l : List AV}, allDs l → (dsOf l).map AV.d = l
  | [], _ => rfl
  | .d x :: r, h => by simp only [dsOf, List.map_cons, dsOf_eq (l := r) h]
  | .any :: _, h => h.elim
  | .nils :: _, h => h.elim
  | .nilp :: _, h => h.elim
  | .nl _ :: _, h => h.elim
  | .ref _ :: _, h => h.elim
  | .box _ _ :: _, h => h.elim
  | .elt _ _ _ _ :: _, h => h.elim
  | .arr _ _ _ :: _, h => h.elim
  | .fn _ _ :: _, h => h.elim
  | .agg _ :: _, h => h.elim
  | .tup _ :: _, h => h.elim
/-- One element behind the first cells of a box: written in place, or into a new block. -/
def aAppendBox (P : Program) (nm t id len : Nat) (cs : List AV) (ys : List (List D)) (yp : Prop) (free : Prop) : Out :=
  ⟨free ∧ (mkTI P t).k.isSl = true ∧ (mkTI P (mkTI P t).k.el).size = 1 ∧ (mkTI P (mkTI P t).k.el).zero.length = (mkTI P (mkTI P t).k.el).size ∧ yp ∧ (∀ e ∈ ys, e.length = 1) ∧ ys.length = 1 ∧ allDs (cs.take len) ∧ len ≤ cs.length ∧ (len + 1) * (mkTI P (mkTI P t).k.el).bytes ≤ 140737488355328 ∧ len + 1 ≤ LB,
   bif decide (len < cs.length) then .arr id 0 (len + 1) else .arr nm 0 (len + 1),
   bif decide (len < cs.length) then [(id, some (.pre (dsOf (cs.take len) ++ ys.flatten)))] else [(nm, some (.pre (dsOf (cs.take len) ++ ys.flatten)))]⟩
def aAppend (P : Program) (nm t : Nat) (x y : AV) (H : HF) : Out :=
  match x with
  | .nils => ⟨H nm = none ∧ (mkTI P t).k.isSl = true ∧ (mkTI P (mkTI P t).k.el).size ≠ 0 ∧ (mkTI P (mkTI P t).k.el).zero.length = (mkTI P (mkTI P t).k.el).size ∧ esOfP H y ∧ (∀ e ∈ esOf H y, e.length = (mkTI P (mkTI P t).k.el).size) ∧ (esOf H y).length * (mkTI P (mkTI P t).k.el).bytes ≤ 140737488355328 ∧ (esOf H y).length ≤ LB,
      .arr nm 0 (esOf H y).length, [(nm, some (.arr (mkTI P t).k.el (mkTI P (mkTI P t).k.el).size (esOf H y)))]⟩
  | .arr id 0 len => match H id with
    | some (.arr T sz es) => ⟨(mkTI P t).k.isSl = true ∧ T = (mkTI P t).k.el ∧ sz = (mkTI P (mkTI P t).k.el).size ∧ sz ≠ 0 ∧ (mkTI P (mkTI P t).k.el).zero.length = (mkTI P (mkTI P t).k.el).size ∧ len = es.length ∧ esOfP H y ∧ (∀ e ∈ esOf H y, e.length = (mkTI P (mkTI P t).k.el).size) ∧ (es.length + (esOf H y).length) * (mkTI P (mkTI P t).k.el).bytes ≤ 140737488355328 ∧ es.length + (esOf H y).length ≤ LB,
        .arr id 0 (len + (esOf H y).length), [(id, some (.arr T sz (es ++ esOf H y)))]⟩
    | some (.box cs) => aAppendBox P nm t id len cs (esOf H y) (esOfP H y) (H nm = none)
    | _ => fail
  | _ => fail

theorem CfgF.drew {n A β E H a w} (h : CfgF n A β E H a w) : CfgF n A β E H a w.drew ∧ Trans w A β H w.drew A β H := by
  have hs : ∀ b : Nat, w.drew.heap[b]? = w.heap[b]? := fun _ => rfl
  have hk : ∀ i o, H i = some o → ∃ o2, H i = some o2 ∧ Keep w w.drew β β i o2 o := fun i o ho => ⟨o, ho, by
    cases o with
    | box _ => exact ⟨rfl, fun _ _ => rfl⟩
    | pre _ => exact ⟨rfl, fun _ _ => rfl⟩
    | arr _ _ _ => exact ⟨rfl, rfl, Nat.le_refl _, fun _ => ⟨rfl, fun _ _ => rfl⟩⟩⟩
  refine ⟨h.update (fun _ h => h) (fun b _ => hs b) (fun i o ho => .inl (hk i o ho)) ⟨fun id cs hi => ?_, fun id T sz es hi => ?_, h.heap.inj, h.heap.sepA, h.heap.bound, fun id ds hi => ?_⟩,
    ⟨Nat.le_refl _, rfl, rfl, rfl, fun _ _ _ => rfl, fun _ h => h, fun _ h => .inl h, fun i b hi hb => .inr ⟨i, hi, hb⟩, fun i o o' ho ho' => by
      obtain ⟨o2, h2, h3⟩ := hk i o' ho'
      rw [ho] at h2; cases h2; exact h3⟩⟩
  · obtain ⟨b, c, T, hb, hc, hr⟩ := h.heap.box id cs hi
    exact ⟨b, c, T, hb, hc, RepVs.stable (fun _ h => h) (fun b _ => hs b) _ _ (fun i _ o ho => hk i o ho) hr⟩
  · obtain ⟨h1, h2⟩ := h.heap.arr id T sz es hi
    exact ⟨h1, h2.imp (fun h => h) fun ⟨b, c, hb, hc, h3, h4⟩ => ⟨b, c, hb, hc, h3, RepEs.stable (fun _ h => h) (fun b _ => hs b) b sz (hs b) 0 es h4⟩⟩
  · obtain ⟨b, c, T, vs, us, hb, hc, he, hr⟩ := h.heap.pre id ds hi
    exact ⟨b, c, T, vs, us, hb, hc, he, hr.stableD (fun _ h => h) (fun b _ => hs b)⟩

theorem info_zero {P : Program} {t : Nat} (h : (mkTI P t).size ≠ 0) (hz : (mkTI P t).zero.length = (mkTI P t).size) :
    ∃ i z, P.info? t = some i ∧ i.size = (mkTI P t).size ∧ i.bytes = (mkTI P t).bytes ∧ i.zero = some z ∧ z.cells.size = (mkTI P t).size := by
  obtain ⟨i, hi, hs, hb, h3⟩ := info_of h
  cases hzz : i.zero with
  | none => rw [hzz] at h3; rw [h3] at hz; simp at hz; omega
  | some z =>
    rw [hzz] at h3
    exact ⟨i, z, hi, hs, hb, hzz, by rw [← hz, h3]; simp⟩

theorem blk_new (w : World) (c : Array Value) (T : TypeId) : blkSize (w.alloc (.cells c T)) w.heap.size = c.size := by
  simp only [blkSize, heap_alloc_new w _]

/-- The grown array in its new block. -/
theorem CfgF.grow {n A β E H a w} (h : CfgF n A β E H a w) {id T sz : Nat} {es ys : List (List D)} (ho : H id = some (.arr T sz es)) {olds news tail : List Value}
    (ho1 : RepDs w A es.flatten olds) (ho2 : ∀ e ∈ es, e.length = sz) (hn1 : RepDs w A ys.flatten news) (hn2 : ∀ e ∈ ys, e.length = sz) (hLB : es.length + ys.length ≤ LB)
    (hy : ys ≠ []) (c : Array Value) (hc : c.toList = olds ++ news ++ tail) (hcs : (es.length + ys.length) * sz ≤ c.size) :
    CfgF n A (fun i => if i = id then some w.heap.size else β i) E (fun i => if i = id then some (.arr T sz (es ++ ys)) else H i) a (w.drew.alloc (.cells c T)) ∧
    Trans w A β H (w.drew.alloc (.cells c T)) A (fun i => if i = id then some w.heap.size else β i) (fun i => if i = id then some (.arr T sz (es ++ ys)) else H i) := by
  refine h.change ho (.arr T sz (es ++ ys)) (β' := fun i => if i = id then some w.heap.size else β i) (b' := w.heap.size) (by simp) rfl rfl rfl (fun b hb _ => heap_alloc_old w.drew _ b hb) (fun i hi => by simp [hi]) (by simp) (.inr (Nat.le_refl _)) ?_ ?_
  · refine ⟨rfl, rfl, by simp, fun e => ?_⟩
    rw [List.length_append] at e
    have : ys.length = 0 := by omega
    exact absurd (List.eq_nil_of_length_eq_zero this) hy
  · refine ⟨by rw [List.length_append]; exact hLB, c, ⟨_, heap_alloc_new w.drew _⟩, by rw [List.length_append]; exact hcs, fun e he => ?_, olds ++ news, tail, hc, by rw [List.flatten_append]; exact ho1.append hn1⟩
    rcases List.mem_append.1 he with he | he
    · exact ho2 e he
    · exact hn2 e he

theorem sem_appendBox {P : Program} {n d nm t id len tr p e g E H A β a w} {x y : Operand} {Y : AV} {cs : List AV} (hd : ∀ i, d = some i → i < n) (hc : CfgF n A β E H a w) (h2 : RepV w A β H (.arr id 0 len) (a.eval x)) (h3 : RepV w A β H Y (a.eval y))
    (ho : H id = some (.box cs)) (h : (aAppendBox P nm t id len cs (esOf H Y) (esOfP H Y) (H nm = none)).pre)
    (hf : ∀ o, (nm, some o) ∈ (aAppendBox P nm t id len cs (esOf H Y) (esOfP H Y) (H nm = none)).upd → H nm = none → Fresh nm E H)
    (run : ∀ v w', (Builtin.append_ #[t, t] tr #[a.eval x, a.eval y]).run P w = .ok v w' →
        (execOp a.eval ⟨d, .call { callee := .builtin .append, args := #[x, y], argTypes := #[t, t] }, tr, p, e, g⟩).run P w = .ok (.value v) w') :
    ∃ v w' A' β', (execOp a.eval ⟨d, .call { callee := .builtin .append, args := #[x, y], argTypes := #[t, t] }, tr, p, e, g⟩).run P w = .ok (.value v) w' ∧
      CfgF n A' β' E (updF H (aAppendBox P nm t id len cs (esOf H Y) (esOfP H Y) (H nm = none)).upd) a w' ∧ RepV w' A' β' (updF H (aAppendBox P nm t id len cs (esOf H Y) (esOfP H Y) (H nm = none)).upd) (aAppendBox P nm t id len cs (esOf H Y) (esOfP H Y) (H nm = none)).res v ∧
      Trans w A β H w' A' β' (updF H (aAppendBox P nm t id len cs (esOf H Y) (esOfP H Y) (H nm = none)).upd) := by
  unfold aAppendBox at h hf ⊢
  obtain ⟨g0, g1, g2, g3, g4, g5, g6, g7, g8, g9, g10⟩ := h
  obtain ⟨el, hel⟩ := TK.sl_of g1
  have hu := und_slice hel
  have hel' : (mkTI P t).k.el = el := by rw [hel]; rfl
  rw [hel'] at g2 g3 g9
  obtain ⟨i, z, hi, hs, hby, hz, hzs⟩ := info_zero (P := P) (t := el) (by omega) g3
  rw [g2] at hs hzs
  obtain ⟨ad, c, news, e1, hnl, hnr, hnLB, hnc⟩ := esOf_rep hc h3 g4 1 g5
  generalize esOf H Y = ys at *
  have hnc' : ys.length = 0 ∨ ∃ ad', ad = some ad' ∧ ∀ (j : Nat) (v : Value), news[j]? = some v → w.cell? (ad'.add j) = some v :=
    hnc.imp (fun h => h) fun ⟨b, o, e, h⟩ => ⟨_, e, fun j v hj => by rw [add_eq]; exact h j v hj⟩
  have hnews : news.length = 1 := by rw [hnl, g6]
  simp only [RepV, ho] at h2
  obtain ⟨b, ad1, cap, hb, e0, hcap, hat, hblk⟩ := h2
  obtain ⟨b', cur, T, hb', hcc, hr⟩ := hc.heap.box id cs ho
  rw [hb] at hb'; cases hb'
  have hlen := hr.length
  simp at hlen
  have hcapc : cap = cs.length := by
    rw [Nat.zero_add] at hblk
    rw [hblk]; simp only [blkSize, hcc]; exact hlen
  have hds := dsOf_eq g7
  have hpre : RepVs w A β H ((dsOf (cs.take len) ++ ys.flatten).map AV.d) (cur.toList.take len ++ news) := by
    rw [List.map_append, hds]
    exact (hr.take len).append (RepVs_d.2 hnr)
  rw [e0, e1] at run
  by_cases hlt : len < cs.length
  · simp only [hlt, decide_true, cond_true] at hf ⊢
    have had : ad1 = ⟨b, 0, none⟩ := by
      rcases hat with h | h
      · omega
      · exact h
    subst had
    have hroom := run_append_room' (P := P) w t tr el i hu hi b len cap cur T hcc ad ys.length c news (by rw [hs, hnl]) hnc' (fun u hu => RepDs.oneCell hnr u hu) (by omega) (by rw [hs, hnews]; omega)
    rw [hs, Nat.mul_one, hnews, g6] at hroom
    rw [g6] at run
    obtain ⟨c1, c2⟩ := hc.write (id := id) ho (.pre (dsOf (cs.take len) ++ ys.flatten)) hb hcc (c' := (cur.toList.take len ++ news ++ cur.toList.drop (len + 1)).toArray) (by simp [hnews]; omega)
      ⟨cur.toList.take len ++ news, cur.toList.drop (len + 1), by simp, hpre⟩
    rw [updF_one]
    refine ⟨_, _, A, β, run _ _ hroom, c1, ?_, c2⟩
    simp only [RepV, if_true]
    refine ⟨b, ⟨b, 0, none⟩, cap, hb, rfl, by omega, .inr rfl, ?_⟩
    rw [Nat.zero_add] at hblk ⊢
    rw [hblk]
    simp only [blkSize, setRow_heap w b cur _ T _ hcc, hcc]
    simp [hnews]; omega
  · simp only [hlt, decide_false, cond_false] at hf ⊢
    have hfr := hf _ (List.mem_singleton.2 rfl) g0
    have hlc : len = cs.length := by omega
    have holds : len = 0 ∨ ∃ ad', some ad1 = some ad' ∧ ∀ (j : Nat) (v : Value), (cur.toList.take len)[j]? = some v → w.cell? (ad'.add j) = some v := by
      by_cases h0 : len = 0
      · exact .inl h0
      · refine .inr ⟨ad1, rfl, fun j v hj => ?_⟩
        rcases hat with h | h
        · omega
        · subst h
          rw [add_eq]
          rw [List.getElem?_take] at hj
          split at hj
          · simpa [World.cell?, hcc] using hj
          · cases hj
    have hgrow := run_append_grow' (P := P) w t tr el i z hu hi hz (some ad1) len cap (cur.toList.take len) (by rw [hs]; simp; omega) holds ad ys.length c news (by rw [hs]; exact hnl) hnc' (by omega)
      (by simp only [LB] at g10; omega) (by rw [g6]; exact growslice_fits (by omega) (by rw [hby]; exact g9))
    have hge := grownCap_ge w (len + ys.length) cap el
    obtain ⟨d1, d2⟩ := hc.drew
    obtain ⟨c1, c2⟩ := d1.alloc hfr ((cur.toList.take len).toArray ++ news.toArray ++ Builtin.zeroCells z.cells (grownCap w (len + ys.length) cap el - (len + ys.length))) el (.pre (dsOf (cs.take len) ++ ys.flatten))
      ⟨cur.toList.take len ++ news, (Builtin.zeroCells z.cells (grownCap w (len + ys.length) cap el - (len + ys.length))).toList, by simp, RepVs.stableD (w := w) (w' := w.drew) (fun _ h => h) (fun _ _ => rfl) hpre⟩
    rw [updF_one]
    refine ⟨_, _, A, _, run _ _ hgrow, c1, ?_, d2.comp c2 fun i h4 h5 => absurd h5 h4⟩
    · simp only [RepV, if_true]
      refine ⟨w.heap.size, ⟨w.heap.size, 0, none⟩, _, rfl, by rw [g6], by rw [g6] at hge; exact hge, .inr rfl, ?_⟩
      rw [Nat.zero_add]
      refine Eq.trans ?_ (blk_new w.drew _ el).symm
      simp only [Array.size_append, List.size_toArray, List.length_take, Array.length_toList, hnews, size_zeroCells, hzs, g6]
      rw [g6] at hge
      omega

theorem sem_append {P n d nm t x y tr p e g E H} (hd : ∀ i, d = some i → i < n) (hf : (∀ o, (nm, some o) ∈ (aAppend P nm t (evalA E x) (evalA E y) H).upd → H nm = none → Fresh nm E H)) (h : (aAppend P nm t (evalA E x) (evalA E y) H).pre) :
    OSem P n ⟨d, .call { callee := .builtin .append, args := #[x, y], argTypes := #[t, t] }, tr, p, e, g⟩ E H (aAppend P nm t (evalA E x) (evalA E y) H).res (aAppend P nm t (evalA E x) (evalA E y) H).upd :=
  OSem.value hd fun A β a w hc => by
    have h2 := hc.eval x
    have h3 := hc.eval y
    generalize evalA E x = X at *
    generalize evalA E y = Y at *
    have run : ∀ v w', (Builtin.append_ #[t, t] tr #[a.eval x, a.eval y]).run P w = .ok v w' →
        (execOp a.eval ⟨d, .call { callee := .builtin .append, args := #[x, y], argTypes := #[t, t] }, tr, p, e, g⟩).run P w = .ok (.value v) w' := fun v w' hr =>
      run_builtin_op (Builtin.append_ #[t, t] tr #[a.eval x, a.eval y]) (fun _ => by simp [builtin]) hr
    unfold aAppend at h hf ⊢
    split at h
    · obtain ⟨g0, g1, g2, g3, g4, g5, g6, g7⟩ := h
      obtain ⟨el, hel⟩ := TK.sl_of g1
      have hu := und_slice hel
      have hel' : (mkTI P t).k.el = el := by rw [hel]; rfl
      simp only [hel'] at g2 g3 g5 g6 ⊢
      obtain ⟨i, z, hi, hs, hby, hz, hzs⟩ := info_zero g2 g3
      obtain ⟨ad, c, news, e1, hnl, hnr, hnLB, hnc⟩ := esOf_rep hc h3 g4 (mkTI P el).size g5
      simp only [RepV] at h2
      obtain ⟨a0, e0⟩ := h2
      generalize esOf H Y = ys at *
      have hfr := hf _ (List.mem_singleton.2 rfl) g0
      -- the empty array, without a block
      have hc0 : CfgF n A (fun i => if i = nm then none else β i) E (fun i => if i = nm then some (.arr el (mkTI P el).size []) else H i) a w ∧
          Trans w A β H w A (fun i => if i = nm then none else β i) (fun i => if i = nm then some (.arr el (mkTI P el).size []) else H i) := by
        have idok : ∀ i o', (if i = nm then some (.arr el (mkTI P el).size []) else H i) = some o' → (∃ o, H i = some o ∧ Keep w w β (fun i => if i = nm then none else β i) i o o') ∨ Fresh i E H := fun i o' ho' => by
          by_cases e : i = nm
          · subst e; exact .inr hfr
          · simp only [e, if_false] at ho'
            refine .inl ⟨o', ho', ?_⟩
            cases o' with
            | box _ => exact ⟨by simp [e], fun _ _ => rfl⟩
            | pre _ => exact ⟨by simp [e], fun _ _ => rfl⟩
            | arr _ _ _ => exact ⟨rfl, rfl, Nat.le_refl _, fun _ => ⟨by simp [e], fun _ _ => rfl⟩⟩
        refine ⟨hc.update (fun _ h => h) (fun _ _ => rfl) idok ⟨fun id cs hi => ?_, fun id T sz es hi => ?_, fun i j b hi hj hb1 hb2 => ?_, fun i b hi hb => ?_, hc.heap.bound, fun id ds hi => ?_⟩,
          ⟨Nat.le_refl _, rfl, rfl, rfl, fun _ _ _ => rfl, fun _ h => h, fun _ h => .inl h, fun i b hi hb => ?_, fun i o o' ho ho' => ?_⟩⟩
        · by_cases e : id = nm
          · subst e; simp at hi
          · simp only [e, if_false] at hi
            obtain ⟨b, cc, T, hb, hcc, hr⟩ := hc.heap.box id cs hi
            refine ⟨b, cc, T, by simpa [e] using hb, hcc, RepVs.stable (fun _ h => h) (fun _ _ => rfl) _ _ (fun i hi' o1 ho1 => ?_) hr⟩
            rcases idok i o1 ho1 with h1 | h1
            · exact h1
            · exact absurd hi' (h1.2.2 id _ hi)
        · by_cases e : id = nm
          · subst e
            simp only [if_true, Option.some.injEq, AObj.arr.injEq] at hi
            obtain ⟨rfl, rfl, rfl⟩ := hi
            exact ⟨by simp, .inl ⟨by simp, rfl⟩⟩
          · simp only [e, if_false] at hi ⊢
            exact hc.heap.arr id T sz es hi
        · by_cases e1 : i = nm <;> by_cases e2 : j = nm <;> simp only [e1, e2, if_true, if_false] at hi hj hb1 hb2
          · cases hb1
          · cases hb1
          · cases hb2
          · exact hc.heap.inj i j b hi hj hb1 hb2
        · by_cases e : i = nm <;> simp only [e, if_true, if_false] at hi hb
          · cases hb
          · exact hc.heap.sepA i b hi hb
        · by_cases e : id = nm
          · subst e; simp at hi
          · simp only [e, if_false] at hi
            obtain ⟨b, cc, T, vs, us, hb, hcc, he, hr⟩ := hc.heap.pre id ds hi
            exact ⟨b, cc, T, vs, us, by simpa [e] using hb, hcc, he, hr.stableD (fun _ h => h) (fun _ _ => rfl)⟩
        · by_cases e : i = nm <;> simp only [e, if_true, if_false] at hi hb
          · cases hb
          · exact .inr ⟨i, hi, hb⟩
        · rcases idok i o' ho' with ⟨o2, h1, h4⟩ | h1
          · rw [ho] at h1; cases h1; exact h4
          · rw [h1.1] at ho; cases ho
      obtain ⟨hc1, ht1⟩ := hc0
      by_cases hy : ys = []
      · subst hy
        rw [e0, e1] at run
        refine ⟨_, _, _, _, run _ _ (run_append_none w t tr el i hu hi a0 0 ad c), by rw [updF_one]; exact hc1, ?_, by rw [updF_one]; exact ht1⟩
        rw [updF_one]
        simp only [RepV, if_true, RepArr, List.length_nil]
        exact ⟨⟨_, _, rfl, Nat.le_refl _⟩, Nat.le_refl _, fun _ => .inl ⟨trivial, trivial, _, rfl⟩⟩
      · have hyl : 0 < ys.length := List.length_pos_iff.2 hy
        rw [e0, e1] at run
        have hr := run_append_grow' (P := P) w t tr el i z hu hi hz a0 0 0 [] (by simp) (.inl rfl) ad ys.length c news (by rw [hs]; exact hnl)
          (hnc.imp (fun h => h) fun ⟨b, o, e, h⟩ => ⟨_, e, fun j v hj => by rw [add_eq]; exact h j v hj⟩) (by omega) (by simp only [LB] at g7; omega) (by rw [Nat.zero_add]; exact growslice_fits hyl (by rw [hby]; exact g6))
        obtain ⟨hc2, ht2⟩ := hc1.grow (id := nm) (T := el) (sz := (mkTI P el).size) (ys := ys) (es := []) (by simp) (olds := []) (news := news) (by simp [RepDs]) (by simp) hnr g5 (by simpa using g7) hy
          (#[] ++ news.toArray ++ Builtin.zeroCells z.cells (grownCap w (0 + ys.length) 0 el - (0 + ys.length))) (tail := (Builtin.zeroCells z.cells (grownCap w (0 + ys.length) 0 el - (0 + ys.length))).toList) (by simp)
          (by simp [hnl])
        have hge := grownCap_ge w (0 + ys.length) 0 el
        have hcm := grownCap_le_maxLen w (0 + ys.length) 0 el (by simp only [LB, maxLen] at *; omega)
        refine ⟨_, _, A, (fun i => if i = nm then some w.heap.size else if i = nm then none else β i), run _ _ hr, ?_, ?_, ?_⟩
        · rw [updF_one]
          have e4 : (fun i => if i = nm then some (AObj.arr el (mkTI P el).size ([] ++ ys)) else if i = nm then some (AObj.arr el (mkTI P el).size []) else H i) = fun i => if i = nm then some (AObj.arr el (mkTI P el).size ys) else H i := by
            funext i; by_cases e : i = nm <;> simp [e]
          rw [e4] at hc2
          exact hc2
        · rw [updF_one]
          simp only [RepV, if_true, RepArr, Nat.zero_add] at hge hcm ⊢
          refine ⟨⟨_, _, rfl, hge⟩, Nat.le_refl _, fun _ => .inr ⟨w.heap.size, _, _, rfl, rfl, .inr (by simp), ?_, by simp only [maxLen] at hcm; omega⟩⟩
          refine Eq.trans ?_ (blk_new w.drew _ el).symm
          simp only [Array.size_append, List.size_toArray, hnl, size_zeroCells, hzs, List.length_nil, Nat.zero_add, ← Nat.add_mul]
          congr 1
          omega
        · have := ht1.comp ht2 fun i h4 h5 => by
            by_cases e : i = nm
            · subst e; exact absurd hfr.1 h4
            · simp only [e, if_false] at h5; exact absurd h5 h4
          rw [updF_one]
          have e4 : (fun i => if i = nm then some (AObj.arr el (mkTI P el).size ([] ++ ys)) else if i = nm then some (AObj.arr el (mkTI P el).size []) else H i) = fun i => if i = nm then some (AObj.arr el (mkTI P el).size ys) else H i := by
            funext i; by_cases e : i = nm <;> simp [e]
          rw [e4] at this
          exact this
    · rename_i id len
      split at h
      rotate_left
      · rename_i cs ho
        refine sem_appendBox hd hc h2 h3 ho h (fun o hm => hf o ?_) run
        simp only [ho]
        exact hm
      · exact h.elim
      rename_i T sz es ho
      obtain ⟨g1, g2, g3, g4, g5, g6, g7, g8, g9, g10⟩ := h
      obtain ⟨el, hel⟩ := TK.sl_of g1
      have hu := und_slice hel
      have hel' : (mkTI P t).k.el = el := by rw [hel]; rfl
      simp only [hel'] at g2 g3 g5 g8 g9 ⊢
      subst g2
      subst g6
      obtain ⟨i, z, hi, hs, hby, hz, hzs⟩ := info_zero (by rw [← g3]; exact g4) g5
      rw [← g3] at hs hzs g8
      obtain ⟨ad, c, news, e1, hnl, hnr, hnLB, hnc⟩ := esOf_rep hc h3 g7 sz g8
      generalize esOf H Y = ys at *
      have hnc' : ys.length = 0 ∨ ∃ ad', ad = some ad' ∧ ∀ (j : Nat) (v : Value), news[j]? = some v → w.cell? (ad'.add j) = some v :=
        hnc.imp (fun h => h) fun ⟨b, o, e, h⟩ => ⟨_, e, fun j v hj => by rw [add_eq]; exact h j v hj⟩
      simp only [RepV, ho] at h2
      obtain ⟨⟨a1, cap1, e0, hcap1⟩, _, hstrong⟩ := h2
      have hst := hstrong (by omega)
      clear hstrong
      obtain ⟨hLB, harr⟩ := hc.heap.arr id T sz es ho
      rw [e0, e1] at run
      have hsame : ys = [] → (fun i => if i = id then some (AObj.arr T sz (es ++ ys)) else H i) = H := by
        rintro rfl
        funext j
        by_cases e : j = id
        · subst e; simp [ho]
        · simp [e]
      -- the array grows into a new block
      have grow : ∀ (olds : List Value), RepDs w A es.flatten olds → olds.length = es.length * sz → (∀ e ∈ es, e.length = sz) →
          (es.length = 0 ∨ ∃ ad', a1 = some ad' ∧ ∀ (j : Nat) (v : Value), olds[j]? = some v → w.cell? (ad'.add j) = some v) → cap1 < es.length + ys.length →
          ∃ v w' A' β', (execOp a.eval ⟨d, .call { callee := .builtin .append, args := #[x, y], argTypes := #[t, t] }, tr, p, e, g⟩).run P w = .ok (.value v) w' ∧
            CfgF n A' β' E (fun i => if i = id then some (.arr T sz (es ++ ys)) else H i) a w' ∧ RepV w' A' β' (fun i => if i = id then some (.arr T sz (es ++ ys)) else H i) (.arr id 0 (es.length + ys.length)) v ∧
            Trans w A β H w' A' β' (fun i => if i = id then some (.arr T sz (es ++ ys)) else H i) := by
        intro olds ho1 hol ho2 hread hlt
        have hr := run_append_grow' (P := P) w t tr T i z hu hi hz a1 es.length cap1 olds (by rw [hs]; exact hol) hread ad ys.length c news (by rw [hs]; exact hnl) hnc' hlt
          (by simp only [LB] at g10; omega) (growslice_fits (by omega) (by rw [hby]; exact g9))
        have hge := grownCap_ge w (es.length + ys.length) cap1 T
        have hcm := grownCap_le_maxLen w (es.length + ys.length) cap1 T (by simp only [LB, maxLen] at *; omega)
        have hy : ys ≠ [] := by rintro rfl; simp at hlt; omega
        obtain ⟨hc2, ht2⟩ := hc.grow ho (olds := olds) (news := news) ho1 ho2 hnr g8 g10 hy
          (olds.toArray ++ news.toArray ++ Builtin.zeroCells z.cells (grownCap w (es.length + ys.length) cap1 T - (es.length + ys.length))) (tail := (Builtin.zeroCells z.cells (grownCap w (es.length + ys.length) cap1 T - (es.length + ys.length))).toList) (by simp)
          (by simp only [Array.size_append, List.size_toArray, hol, hnl, Nat.add_mul]; omega)
        refine ⟨_, _, A, _, run _ _ hr, hc2, ?_, ht2⟩
        simp only [RepV, if_true, RepArr, List.length_append, Nat.zero_add]
        refine ⟨⟨_, _, rfl, hge⟩, Nat.le_refl _, fun _ => .inr ⟨w.heap.size, _, _, rfl, rfl, .inr (by simp), ?_, by simp only [maxLen] at hcm; omega⟩⟩
        refine Eq.trans ?_ (blk_new w.drew _ T).symm
        simp only [Array.size_append, List.size_toArray, hol, hnl, size_zeroCells, hzs, ← Nat.add_mul]
        congr 1
        omega
      have none0 : es.length = 0 → ys = [] →
          ∃ v w' A' β', (execOp a.eval ⟨d, .call { callee := .builtin .append, args := #[x, y], argTypes := #[t, t] }, tr, p, e, g⟩).run P w = .ok (.value v) w' ∧
            CfgF n A' β' E (fun i => if i = id then some (.arr T sz (es ++ ys)) else H i) a w' ∧ RepV w' A' β' (fun i => if i = id then some (.arr T sz (es ++ ys)) else H i) (.arr id 0 (es.length + ys.length)) v ∧
            Trans w A β H w' A' β' (fun i => if i = id then some (.arr T sz (es ++ ys)) else H i) := by
        intro hl hy
        rw [hsame hy]
        subst hy
        rw [hl] at run e0
        refine ⟨_, w, A, β, run _ _ (run_append_none w t tr T i hu hi a1 cap1 ad c), hc, ?_, Trans.refl _ _ _ _⟩
        have := hc.eval x
        rw [e0] at this
        simp only [List.length_nil, Nat.add_zero, RepV, ho, RepArr, hl]
        rw [hl] at hst hcap1
        refine ⟨⟨a1, cap1, rfl, hcap1⟩, by omega, fun _ => ?_⟩
        rw [e0] at hst
        exact hst.imp (fun ⟨h1, _, h3⟩ => ⟨h1, trivial, h3⟩) (fun h => h)
      rw [updF_one]
      rcases hst with ⟨hb, _, a2, e2⟩ | ⟨b, a2, cap2, hb, e2, ha, hblk, hmax⟩
      · rw [e0] at e2
        simp only [Value.slice.injEq] at e2
        obtain ⟨rfl, hl0, rfl⟩ := e2
        rcases harr with ⟨_, hes⟩ | ⟨b', _, hb', _⟩
        · subst hes
          by_cases hy : ys = []
          · exact none0 rfl hy
          · exact grow [] (by simp [RepDs]) (by simp) (by simp) (.inl rfl) (by have := List.length_pos_iff.2 hy; simp; omega)
        · rw [hb] at hb'; cases hb'
      · rw [e0] at e2; cases e2
        rcases harr with ⟨hb', _⟩ | ⟨b', cur, hb', ⟨T1, hcc⟩, hle, hr⟩
        · rw [hb] at hb'; cases hb'
        rw [hb] at hb'; cases hb'
        obtain ⟨ho2, olds, hol, ho1, hocell⟩ := hr.values
        by_cases hroom : es.length + ys.length ≤ cap1
        · by_cases h0 : cap1 = 0
          · exact none0 (by omega) (List.eq_nil_of_length_eq_zero (by omega))
          rcases ha with ha | ha
          · exact absurd ha h0
          have ha' : a2 = ⟨b, 0, none⟩ := by rw [ha, Nat.zero_mul]
          subst ha'
          have hcur : cur.size = cap1 * sz := by
            have h7 := hblk
            simp only [blkSize, hcc, Nat.zero_add] at h7
            exact h7.symm
          have hfit : es.length * sz + news.length ≤ cur.size := by
            rw [hnl, hcur, ← Nat.add_mul]; exact Nat.mul_le_mul_right _ hroom
          have hrun := run_append_room' (P := P) w t tr T i hu hi b es.length cap1 cur T1 hcc ad ys.length c news (by rw [hs]; exact hnl) hnc' hnr.oneCell hroom (by rw [hs]; exact hfit)
          rw [hs] at hrun
          have htake : cur.toList.take (es.length * sz) = olds := by
            apply List.ext_getElem?
            intro j
            rw [List.getElem?_take]
            by_cases hj : j < es.length * sz
            · rw [if_pos hj]
              have h8 := hocell j (olds[j]'(by omega)) (by simp)
              rw [Nat.zero_add] at h8
              simp only [World.cell?, hcc, Option.isSome_none, Bool.false_eq_true, if_false] at h8
              rw [Array.getElem?_toList, h8]
              simp
            · rw [if_neg hj, List.getElem?_eq_none (by omega)]
          have hsz : (cur.toList.take (es.length * sz) ++ news ++ cur.toList.drop (es.length * sz + news.length)).toArray.size = cur.size := by
            simp only [List.size_toArray, List.length_append, List.length_take, List.length_drop, Array.length_toList]
            omega
          obtain ⟨hc2, ht2⟩ := hc.write ho (.arr T sz (es ++ ys)) (c' := (cur.toList.take (es.length * sz) ++ news ++ cur.toList.drop (es.length * sz + news.length)).toArray) hb hcc hsz
            ⟨rfl, rfl, by simp, by rw [List.length_append]; exact g10, by rw [List.length_append, hsz, Nat.add_mul, ← hnl]; exact hfit, fun e he => by
              rcases List.mem_append.1 he with he | he
              · exact ho2 e he
              · exact g8 e he, olds ++ news, cur.toList.drop (es.length * sz + news.length), by rw [htake], by rw [List.flatten_append]; exact ho1.append hnr⟩
          refine ⟨_, _, A, β, run _ _ hrun, hc2, ?_, ht2⟩
          simp only [RepV, if_true, RepArr, List.length_append, Nat.zero_add]
          refine ⟨⟨_, _, rfl, hroom⟩, Nat.le_refl _, fun _ => .inr ⟨b, _, cap1, hb, rfl, .inr (by simp), ?_, hmax⟩⟩
          simp only [blkSize, setRow_heap w b cur _ T1 _ hcc, hsz, hcur]
        · refine grow olds ho1 hol ho2 ?_ (by omega)
          by_cases h0 : es.length = 0
          · exact .inl h0
          · rcases ha with ha | ha
            · omega
            · refine .inr ⟨_, rfl, fun j v hj => ?_⟩
              rw [ha, add_eq, Nat.zero_mul]
              exact hocell j v hj
    · exact h.elim
end Go.AX
set_option linter.unusedVariables false
set_option linter.unusedSimpArgs false
namespace Go.AX

theorem OSem.skip {P n o E H u} (hd : ∀ d, o.dst = some d → d < n)
    (h : ∀ A β a w, CfgF n A β E H a w → ∃ w' A' β', (execOp a.eval o).run P w = .ok .skip w' ∧ CfgF n A' β' E (updF H u) a w' ∧ Trans w A β H w' A' β' (updF H u)) : OSem P n o E H .any u := by
  intro A β a w hc
  obtain ⟨w', A', β', hv, hc', ht⟩ := h A β a w hc
  simp only [Oper.wp, hv, Oper.upon]
  exact ⟨A', β', hc'.put hd (by simp only [RepV]), ht⟩

def AV.ok2 (H : HF) : AV → Prop
  | .agg _ => False
  | x => x.ok1 H
def okL (H : HF) : List AV → Prop
  | [] => True
  | x :: r => x.ok2 H ∧ okL H r

theorem ok2_one {w A β H} {x : AV} {v : Value} (h : RepV w A β H x v) (h1 : x.ok2 H) : v.oneCell' = true := by
  cases x with
  | any => exact h1.elim
  | tup _ => exact h1.elim
  | agg cs => exact h1.elim
  | d x => simp only [RepV] at h; exact RepD.oneCell h
  | nils => simp only [RepV] at h; obtain ⟨a, rfl⟩ := h; rfl
  | nilp => simp only [RepV] at h; subst h; rfl
  | nl b => simp only [RepV] at h; obtain ⟨a, c, rfl, _⟩ := h; rfl
  | ref cs => simp only [RepV] at h; obtain ⟨b, o, rfl, _⟩ := h; rfl
  | box id o =>
    obtain ⟨cs, ho⟩ := liveBox_of h1
    simp only [RepV, ho] at h
    obtain ⟨b, _, rfl⟩ := h; rfl
  | elt id i o m =>
    obtain ⟨T, sz, es, ho, hm⟩ := liveArr_of h1
    simp only [RepV, ho] at h
    obtain ⟨b, _, rfl⟩ := h.2 hm.symm; rfl
  | arr id o m =>
    obtain ⟨T, sz, es, ho⟩ := isArr_of h1
    simp only [RepV, ho] at h
    obtain ⟨⟨ad, cap, rfl, _⟩, _⟩ := h; rfl
  | fn f caps => simp only [RepV] at h; obtain ⟨cs, rfl, _⟩ := h; rfl

theorem okL_one {w A β H} : ∀ {xs : List AV} {vs : List Value}, RepVs w A β H xs vs → okL H xs → ∀ v ∈ vs, v.oneCell' = true
  | [], vs, h, _, v, hv => by simp only [RepVs] at h; rw [h] at hv; simp at hv
  | x :: r, vs, h, k, v, hv => by
    simp only [RepVs] at h
    obtain ⟨u, t, rfl, hx, h⟩ := h
    rcases List.mem_cons.1 hv with rfl | hv
    · exact ok2_one hx k.1
    · exact okL_one h k.2 v hv

def aStore (P : Program) (t : Nat) (x y : AV) (H : HF) : Out :=
  match x with
  | .box id o => match H id with
    | some (.box cs) => ⟨y.ok1 H ∧ okL H y.cells ∧ y.cells.length = (mkTI P t).size ∧ (mkTI P t).size ≠ 0 ∧ o + y.cells.length ≤ cs.length, .any, [(id, some (.box (splice cs o y.cells)))]⟩
    | _ => fail
  | .elt id i o m => match H id with
    | some (.arr T sz es) => ⟨y.ok1 H ∧ y.cells.length = (mkTI P t).size ∧ (mkTI P t).size ≠ 0 ∧ o + y.cells.length ≤ sz ∧ m = es.length ∧ i < es.length ∧ avDps H y.cells ∧ id ∉ y.ids, .any,
        (id, some (.arr T sz (es.set i (splice (es.getD i []) o (y.cells.map (avD H)))))) :: y.ids.map fun j => (j, none)⟩
    | _ => fail
  | _ => fail

theorem splice_append_left {α : Type} (xs ys zs : List α) (o : Nat) (h : o + zs.length ≤ xs.length) : splice (xs ++ ys) o zs = splice xs o zs ++ ys := by
  unfold splice
  rw [List.take_append_of_le_length (by omega), List.drop_append_of_le_length (by omega), List.append_assoc, List.append_assoc, List.append_assoc]

theorem splice_append_right {α : Type} (xs ys zs : List α) (o : Nat) : splice (xs ++ ys) (xs.length + o) zs = xs ++ splice ys o zs := by
  unfold splice
  rw [List.take_length_add_append, Nat.add_assoc, List.drop_length_add_append]
  simp

theorem splice_length {α : Type} (xs zs : List α) (o : Nat) (h : o + zs.length ≤ xs.length) : (splice xs o zs).length = xs.length := by
  unfold splice; simp; omega

theorem flatten_set_splice (sz : Nat) (zs : List D) : ∀ (es : List (List D)) (i o : Nat), (∀ e ∈ es, e.length = sz) → i < es.length → o + zs.length ≤ sz →
    (es.set i (splice (es.getD i []) o zs)).flatten = splice es.flatten (i * sz + o) zs
  | [], i, o, _, h, _ => by simp at h
  | e :: r, 0, o, hl, _, ho => by
    have he : e.length = sz := hl e (by simp)
    simp only [List.set_cons_zero, List.getD_cons_zero, List.flatten_cons, Nat.zero_mul, Nat.zero_add]
    rw [splice_append_left _ _ _ _ (by omega)]
  | e :: r, i + 1, o, hl, hi, ho => by
    have he : e.length = sz := hl e (by simp)
    have ih := flatten_set_splice sz zs r i o (fun x hx => hl x (by simp [hx])) (by simpa using hi) ho
    simp only [List.set_cons_succ, List.getD_cons_succ, List.flatten_cons, ih]
    rw [show (i + 1) * sz + o = e.length + (i * sz + o) by rw [he, Nat.add_mul]; omega, splice_append_right]

theorem RepDs.splice {w A} {ds zs : List D} {vs us : List Value} {o : Nat} (h : RepDs w A ds vs) (k : RepDs w A zs us) : RepDs w A (splice ds o zs) (splice vs o us) := by
  have h1 : RepVs w A (fun _ => none) (fun _ => none) (ds.map AV.d) vs := RepVs_d.2 h
  have h2 : RepVs w A (fun _ => none) (fun _ => none) (zs.map AV.d) us := RepVs_d.2 k
  have h3 := RepVs.splice (off := o) h1 h2
  rw [← RepVs_d (β := fun _ => none) (H := fun _ => none)]
  unfold AX.splice at *
  simpa using h3

theorem run_storeAt {P : Program} {w : World} {t b o : Nat} {v : Value} {cur : Array Value} {T : TypeId} (hs : (mkTI P t).size ≠ 0) (hv : v.cells.size = (mkTI P t).size)
    (hg : w.heap[b]? = some (.cells cur T (0, 0))) (hl : o + v.cells.size ≤ cur.size) (h1 : ∀ u ∈ v.cells.toList, u.oneCell' = true) :
    (Instr.storeAt t (.pointer (some ⟨b, o, none⟩)) v).run P w = .ok () (w.setRow b (splice cur.toList o v.cells.toList).toArray) := by
  have hst := run_storeCells_at P b o T v.cells.toList 0 cur w hg (by simpa using hl) h1
  simp only [Nat.add_zero] at hst
  simp only [Instr.storeAt, Instr.sureAddr, storeVar, Sem.run_bind, Sem.run_pure, Result.andThen_ok, run_sizeOf hs, hv, ne_eq, not_true_eq_false, if_false, hst]
  rfl

theorem sem_store {P n d t x y tr p e g E H} (hd : ∀ i, d = some i → i < n) (h : (aStore P t (evalA E x) (evalA E y) H).pre) :
    OSem P n ⟨d, .store t x y, tr, p, e, g⟩ E H .any (aStore P t (evalA E x) (evalA E y) H).upd :=
  OSem.skip hd fun A β a w hc => by
    have h2 := hc.eval x
    have h3 := hc.eval y
    generalize evalA E x = X at *
    generalize evalA E y = Y at *
    unfold aStore at h ⊢
    split at h
    · rename_i id o
      split at h
      · rename_i cs ho
        obtain ⟨g1, g2, g3, g4, g5⟩ := h
        have hy := h3.cells g1
        have hyl := hy.length
        simp at hyl
        simp only [RepV, ho] at h2
        obtain ⟨b, hb, e1⟩ := h2
        obtain ⟨b', c, T, hb', hcc, hr⟩ := hc.heap.box id cs ho
        rw [hb] at hb'; cases hb'
        have hrl := hr.length
        simp at hrl
        have hsz : (splice c.toList o (a.eval y).cells.toList).toArray.size = c.size := by
          rw [List.size_toArray, splice_length _ _ _ (by simp; omega)]; simp
        obtain ⟨hc2, ht2⟩ := hc.write ho (.box (splice cs o Y.cells)) (c' := (splice c.toList o (a.eval y).cells.toList).toArray) hb hcc hsz (hr.splice (off := o) hy)
        refine ⟨_, A, β, ?_, by simp only [updF_one]; exact hc2, by simp only [updF_one]; exact ht2⟩
        have hrun := run_storeAt (P := P) (w := w) (t := t) (o := o) (v := a.eval y) g4 (by omega) hcc (by omega) (okL_one hy g2)
        simp only [execOp, e1, hrun, Sem.run_bind, Sem.run_pure, Result.andThen_ok]
      · exact h.elim
    · rename_i id i o m
      split at h
      · rename_i T sz es ho
        obtain ⟨g1, g2, g3, g4, g5, g6, g7, g8⟩ := h
        have hy := h3.cells g1
        have hyl := hy.length
        simp at hyl
        simp only [RepV, ho] at h2
        obtain ⟨b, hb, e1⟩ := h2.2 g5.symm
        obtain ⟨hLB, harr⟩ := hc.heap.arr id T sz es ho
        rcases harr with ⟨hb', _⟩ | ⟨b', cur, hb', ⟨T1, hcc⟩, hle, hr⟩
        · rw [hb] at hb'; cases hb'
        rw [hb] at hb'; cases hb'
        obtain ⟨ho2, olds, hol, ho1, hocell⟩ := hr.values
        obtain ⟨hc1, ht1⟩ := hc.freezes Y.ids
        have hd1 := hc.avDs_rep Y.ids hy g7 (by rw [AV.ids_cells]; exact fun i h => h)
        have hda := hd1.oneCell
        have ho1' : RepDs w (fun b => A b ∨ ∃ i ∈ Y.ids, H i ≠ none ∧ β i = some b) es.flatten olds := ho1.stable (fun _ h => .inl h) (fun _ _ => rfl)
        have hid : dead H Y.ids id = some (.arr T sz es) := by simp only [dead, g8, if_false]; exact ho
        have hpos : i * sz + o + (a.eval y).cells.size ≤ es.length * sz := by
          have : (i + 1) * sz ≤ es.length * sz := Nat.mul_le_mul_right _ g6
          rw [Nat.add_mul] at this
          omega
        have hsplit : cur.toList = olds ++ cur.toList.drop (es.length * sz) := by
          conv => lhs; rw [← List.take_append_drop (es.length * sz) cur.toList]
          congr 1
          apply List.ext_getElem?
          intro j
          rw [List.getElem?_take]
          by_cases hj : j < es.length * sz
          · rw [if_pos hj]
            have h8 := hocell j (olds[j]'(by omega)) (by simp)
            rw [Nat.zero_add] at h8
            simp only [World.cell?, hcc, Option.isSome_none, Bool.false_eq_true, if_false] at h8
            rw [Array.getElem?_toList, h8]
            simp
          · rw [if_neg hj, List.getElem?_eq_none (by omega)]
        have hsz : (splice cur.toList (i * sz + o) (a.eval y).cells.toList).toArray.size = cur.size := by
          rw [List.size_toArray, splice_length _ _ _ (by simp; omega)]; simp
        have hel : ∀ e ∈ es.set i (splice (es.getD i []) o (Y.cells.map (avD H))), e.length = sz := fun e he => by
          rcases List.mem_or_eq_of_mem_set he with he | rfl
          · exact ho2 e he
          · have : (es.getD i []).length = sz := ho2 _ (by simp [g6])
            rw [splice_length _ _ _ (by simp only [List.length_map]; omega), this]
        obtain ⟨hc2, ht2⟩ := hc1.write hid (.arr T sz (es.set i (splice (es.getD i []) o (Y.cells.map (avD H))))) (c' := (splice cur.toList (i * sz + o) (a.eval y).cells.toList).toArray) hb hcc hsz
          ⟨rfl, rfl, by simp, by simpa using hLB, by rw [List.length_set, hsz]; exact hle, hel, splice olds (i * sz + o) (a.eval y).cells.toList, cur.toList.drop (es.length * sz), by
            show splice cur.toList _ _ = _
            conv => lhs; rw [hsplit]
            rw [splice_append_left _ _ _ _ (by simp; omega)], by
            rw [flatten_set_splice sz _ es i o ho2 g6 (by simp only [List.length_map]; omega)]
            exact ho1'.splice hd1⟩
        refine ⟨_, _, β, ?_, by simp only [updF_cons_dead]; exact hc2, ?_⟩
        · have hrun := run_storeAt (P := P) (w := w) (t := t) (o := i * sz + o) (v := a.eval y) g3 (by omega) hcc (by omega) hda
          simp only [execOp, e1, hrun, Sem.run_bind, Sem.run_pure, Result.andThen_ok]
        · simp only [updF_cons_dead]
          refine ht1.comp ht2 fun j h4 h5 => ?_
          by_cases e : j = id
          · subst e; rw [hid] at h5; cases h5
          · simp only [e, if_false]; exact h5
      · exact h.elim
    · exact h.elim
end Go.AX
set_option linter.unusedVariables false
set_option linter.unusedSimpArgs false
namespace Go.AX
def byteOf : List D → UInt8
  | [.int _ n] => UInt8.ofNat n.toNat
  | _ => 0
def isByte : List D → Prop
  | [.int k _] => k = .u8
  | _ => False
def bytesL (s : List UInt8) : List Int := s.map fun b => (b.toNat : Int)
def bcell (n : Int) : List D := [.int .u8 n]
/-- Conversions; what is read lies in the heap. -/
def aConv (P : Program) (src dst : Nat) (x : AV) (H : HF) : Out :=
  match (mkTI P dst).k, x with
  | .slice e, .d (.str s) => ⟨(mkTI P src).k = .str ∧ (mkTI P e).k = .int .u8, .d (.sl ((bytesL s).map bcell)), []⟩
  | .str, .d (.sl es) => ⟨(mkTI P src).k.isSl = true ∧ (mkTI P (mkTI P src).k.el).k = .int .u8 ∧ ∀ e ∈ es, isByte e, .d (.str (es.map byteOf)), []⟩
  | .str, .arr id off len => ⟨(mkTI P src).k.isSl = true ∧ (mkTI P (mkTI P src).k.el).k = .int .u8 ∧ esOfP H (.arr id off len) ∧ ∀ e ∈ esOf H (.arr id off len), isByte e, .d (.str ((esOf H (.arr id off len)).map byteOf)), []⟩
  | _, _ => aConvert P src dst x

theorem str_of_es {P : Program} {n A β E H a w} (hc : CfgF n A β E H a w) {x : AV} {v : Value} (hx : RepV w A β H x v) (hp : esOfP H x) (hb : ∀ e ∈ esOf H x, isByte e) {src dst el : Nat}
    (hs : P.underlying src = some (.slice el)) (he : P.underlying el = some (.int .u8)) (hd : P.underlying dst = some .string) :
    (Go.convert src dst v).run P w = .ok (.string ⟨((esOf H x).map byteOf).toArray⟩) w := by
  obtain ⟨ad, c, news, rfl, hnl, hnr, _, hnc⟩ := esOf_rep hc hx hp 1 (fun e he => by
    have := hb e he
    unfold isByte at this
    split at this
    · rfl
    · exact this.elim)
  generalize esOf H x = es at *
  rcases hnc with h0 | ⟨b, o, rfl, hcell⟩
  · have : es = [] := List.length_eq_zero_iff.1 h0
    subst this
    rw [run_convert_bytes_string w src dst el ad _ c hs he hd]
    cases ad with
    | none => simp [Conv.bytesToString]; rfl
    | some a0 =>
      have hl := run_loadCells_list (P := P) w a0 [] (fun j v hj => by simp at hj)
      simp only [List.map_nil, List.length_nil]
      exact run_bytesToString (P := P) w a0 0 c [] (by simpa using hl)
  · have key : ∀ (es : List (List D)) (news : List Value), (∀ e ∈ es, isByte e) → RepDs w A es.flatten news → ∀ j (hj : j < es.length), news[j]? = some (.int .u8 ((es[j].map fun _ => (0:Nat)).length * 0 + (match es[j] with | [.int _ n] => n | _ => 0))) := by
      intro es
      induction es with
      | nil => intro news _ _ j hj; simp at hj
      | cons e r ih =>
        intro news hb hr j hj
        have hbe := hb e (by simp)
        unfold isByte at hbe
        split at hbe
        · rename_i k m
          subst hbe
          simp only [List.flatten_cons, List.cons_append, List.nil_append, RepDs] at hr
          obtain ⟨v, t, rfl, hv, ht⟩ := hr
          simp only [RepD] at hv
          obtain ⟨rfl, _⟩ := hv
          cases j with
          | zero => simp
          | succ j => simpa using ih t (fun e he => hb e (by simp [he])) ht j (by simpa using hj)
        · exact hbe.elim
    have hcells : ∀ j (hj : j < es.length), w.cell? ⟨b, o + j, none⟩ = some (.int .u8 (match es[j] with | [.int _ n] => n | _ => 0)) := fun j hj => by
      have := key es news hb hnr j hj
      simp only [Nat.mul_zero, Int.natCast_zero, Int.mul_zero, Int.zero_add] at this
      exact hcell j _ this
    rw [run_convert_bytes_string w src dst el (some ⟨b, o, none⟩) es.length c hs he hd]
    have hadd : ∀ j : Nat, (⟨b, o, none⟩ : Addr).add j = ⟨b, o + j, none⟩ := fun j => by
      simp only [Addr.add]
      split
      · rename_i h; subst h; rfl
      · rfl
    have hl := run_loadCells_list (P := P) w ⟨b, o, none⟩ ((es.map fun e => match e with | [.int _ n] => n | _ => 0).map (Value.int .u8)) (fun j v hj => by
      have hj' : j < es.length := by
        have := (List.getElem?_eq_some_iff.1 hj).1
        simpa using this
      rw [hadd, hcells j hj']
      simp [List.getElem?_eq_getElem hj'] at hj
      rw [← hj])
    simp only [List.length_map] at hl
    rw [run_bytesToString w ⟨b, o, none⟩ es.length c _ hl]
    congr 2
    have hf : ∀ (l : List (List D)) (r : ByteArray), (∀ e ∈ l, isByte e) → (l.map fun e => match e with | [.int _ n] => n | _ => 0).foldl (fun r n => r.push (UInt8.ofNat n.toNat)) r = ⟨r.data ++ (l.map byteOf).toArray⟩ := by
      intro l
      induction l with
      | nil => intro r _; simp
      | cons e l ih =>
        intro r hb
        simp only [List.map_cons, List.foldl_cons]
        rw [ih _ (fun e he => hb e (by simp [he]))]
        have hbe := hb e (by simp)
        unfold isByte at hbe
        split at hbe
        · simp [ByteArray.push, byteOf]
        · exact hbe.elim
    rw [hf es _ hb]
    have he0 : ByteArray.empty.data = #[] := rfl
    rw [he0]
    simp

theorem sem_conv {P n d src dst x tr p e g E H} (hd : ∀ i, d = some i → i < n) (h : (aConv P src dst (evalA E x) H).pre) :
    OSem P n ⟨d, .convert src dst x, tr, p, e, g⟩ E H (aConv P src dst (evalA E x) H).res (aConv P src dst (evalA E x) H).upd := by
  have gen : (aConvert P src dst (evalA E x)).pre → OSem P n ⟨d, .convert src dst x, tr, p, e, g⟩ E H (aConvert P src dst (evalA E x)).res (aConvert P src dst (evalA E x)).upd := fun h => by
    have := sem_convert (H := H) (tr := tr) (p := p) (e := e) (g := g) hd h
    have hu : (aConvert P src dst (evalA E x)).upd = [] := by unfold aConvert; split <;> rfl
    rw [hu]; exact this
  unfold aConv at h ⊢
  split at h
  · rename_i el s hk hx
    refine OSem.value hd fun A β a w hc => ?_
    have h2 := hc.eval x
    rw [hx] at h2
    simp only [RepV, RepD] at h2
    have hsl := und_slice hk
    have hrun := Go.Lib.run_convert_string_bytes (P := P) w src dst el ⟨s.toArray⟩ (und_str h.1) hsl (und_int h.2)
    refine ⟨_, _, fun b => A b ∨ b = w.heap.size, β, by simp only [execOp, h2.1, hrun, Sem.run_bind, Sem.run_pure, Result.andThen_ok]; rfl, ?_, ?_, ?_⟩
    · have hlt : ∀ i b, H i ≠ none → β i = some b → b < w.heap.size := fun i b hi hb => by
        cases ho : H i with
        | none => exact absurd ho hi
        | some o =>
          cases o with
          | box cs =>
            obtain ⟨b', c, T, h3, h4, _⟩ := hc.heap.box i cs ho
            rw [hb] at h3; cases h3
            exact (Array.getElem?_eq_some_iff.1 h4).1
          | pre ds =>
            obtain ⟨b', c, T, _, _, h3, h4, _⟩ := hc.heap.pre i ds ho
            rw [hb] at h3; cases h3
            exact (Array.getElem?_eq_some_iff.1 h4).1
          | arr T sz es =>
            rcases (hc.heap.arr i T sz es ho).2 with ⟨h3, _⟩ | ⟨b', c, h3, ⟨_, h4⟩, _⟩
            · rw [hb] at h3; cases h3
            · rw [hb] at h3; cases h3
              exact (Array.getElem?_eq_some_iff.1 h4).1
      have hold : ∀ b, b < w.heap.size → (Go.Lib.bytesWorld w el ⟨s.toArray⟩).heap[b]? = w.heap[b]? := fun b hb => Go.Lib.bytesWorld_at_old w el _ b hb
      have hkeep : ∀ i o', H i = some o' → ∃ o, H i = some o ∧ Keep w (Go.Lib.bytesWorld w el ⟨s.toArray⟩) β β i o o' := fun i o' ho' => by
        refine ⟨o', ho', ?_⟩
        cases o' with
        | box _ => exact ⟨rfl, fun b hb => blkSize_of_heap (hold b (hlt i b (by simp [ho']) hb))⟩
        | pre _ => exact ⟨rfl, fun b hb => blkSize_of_heap (hold b (hlt i b (by simp [ho']) hb))⟩
        | arr _ _ _ => exact ⟨rfl, rfl, Nat.le_refl _, fun _ => ⟨rfl, fun b hb => blkSize_of_heap (hold b (hlt i b (by simp [ho']) hb))⟩⟩
      refine hc.update (fun _ h => .inl h) (fun b hb => hold b (hc.heap.bound b hb)) (fun i o' ho' => .inl (hkeep i o' ho')) ⟨fun id cs hi => ?_, fun id T sz es hi => ?_, hc.heap.inj, fun i b hi hb hA => ?_, fun b hb => ?_, fun id ds hi => ?_⟩
      · obtain ⟨b, c, T, h3, h4, h5⟩ := hc.heap.box id cs hi
        refine ⟨b, c, T, h3, by rw [hold b (hlt id b (by simp only [updF] at hi; simp [hi]) h3)]; exact h4, RepVs.stable (fun _ h => .inl h) (fun b hb => hold b (hc.heap.bound b hb)) _ _ (fun i _ o' ho' => hkeep i o' ho') h5⟩
      · obtain ⟨h3, h4⟩ := hc.heap.arr id T sz es hi
        refine ⟨h3, h4.imp (fun h => h) fun ⟨b, c, g1, g2, g3, g4⟩ => ?_⟩
        have hb := hold b (hlt id b (by simp only [updF] at hi; simp [hi]) g1)
        exact ⟨b, c, g1, by rw [hb]; exact g2, g3, RepEs.stable (fun _ h => .inl h) (fun b hb => hold b (hc.heap.bound b hb)) b sz hb 0 es g4⟩
      · rcases hA with hA | hA
        · exact hc.heap.sepA i b hi hb hA
        · have := hlt i b hi hb; omega
      · rw [Go.Lib.bytesWorld_size]
        rcases hb with hb | hb
        · have := hc.heap.bound b hb; omega
        · omega
      · obtain ⟨b, c, T, vs, us, h3, h4, h5, h6⟩ := hc.heap.pre id ds hi
        refine ⟨b, c, T, vs, us, h3, by rw [hold b (hlt id b (by simp only [updF] at hi; simp [hi]) h3)]; exact h4, h5, h6.stableD (fun _ h => .inl h) (fun b hb => hold b (hc.heap.bound b hb))⟩
    · simp only [RepV, RepD]
      refine ⟨_, _, by congr 1; simp [bytesL, ByteArray.size], ?_, trivial, ?_⟩
      · have : s.length ≤ grownCap w (ByteArray.size ⟨s.toArray⟩) 0 el := by
          unfold grownCap Question.cut
          simp only [ByteArray.size]
          exact Nat.le_trans (by simp) (Nat.le_add_right _ _)
        simpa [bytesL] using this
      · refine .inr ⟨w.heap.size, 0, 1, rfl, .inr rfl, RepEs.of_values (es := (bytesL s).map bcell) (vs := (bytesL s).map (Value.int .u8)) (fun e he => ?_) ?_ fun j v hj => ?_⟩
        · obtain ⟨n, _, rfl⟩ := List.mem_map.1 he; rfl
        · have : ((bytesL s).map bcell).flatten = (bytesL s).map (D.int .u8) := by
            generalize bytesL s = l
            induction l with
            | nil => rfl
            | cons x r ih => simp [bcell, ih]
          rw [this]
          generalize bytesL s = l
          induction l with
          | nil => simp [RepDs]
          | cons x r ih => simp only [List.map_cons, RepDs]; exact ⟨_, _, rfl, by simp only [RepD]; exact ⟨by trivial, trivial⟩, ih⟩
        · have hj' : j < s.length := by
            have := (List.getElem?_eq_some_iff.1 hj).1
            simpa [bytesL] using this
          rw [Nat.zero_add, Go.Lib.bytesWorld_cell w el ⟨s.toArray⟩ j (by simpa [ByteArray.size] using hj')]
          simp [bytesL, hj'] at hj
          simp [hj', ← hj]
    · have hold : ∀ b, b < w.heap.size → (Go.Lib.bytesWorld w el ⟨s.toArray⟩).heap[b]? = w.heap[b]? := fun b hb => Go.Lib.bytesWorld_at_old w el _ b hb
      refine ⟨by rw [Go.Lib.bytesWorld_size]; omega, by rfl, by rfl, by rfl, fun b hb _ => hold b hb, fun _ h => .inl h, fun b hb => hb.imp (fun h => h) fun h => .inl (by omega), fun i b hi hb => .inr ⟨i, hi, hb⟩, fun i o o' ho ho' => ?_⟩
      simp only [updF] at ho'
      rw [ho] at ho'; cases ho'
      cases o with
      | box cs =>
        refine ⟨rfl, fun b hb => blkSize_of_heap (hold b ?_)⟩
        obtain ⟨b', c, T, h3, h4, _⟩ := hc.heap.box i cs ho
        rw [hb] at h3; cases h3
        exact (Array.getElem?_eq_some_iff.1 h4).1
      | pre ds =>
        refine ⟨rfl, fun b hb => blkSize_of_heap (hold b ?_)⟩
        obtain ⟨b', c, T, _, _, h3, h4, _⟩ := hc.heap.pre i ds ho
        rw [hb] at h3; cases h3
        exact (Array.getElem?_eq_some_iff.1 h4).1
      | arr _ _ _ =>
        refine ⟨rfl, rfl, Nat.le_refl _, fun _ => ⟨rfl, fun b hb => blkSize_of_heap (hold b ?_)⟩⟩
        rcases (hc.heap.arr i _ _ _ ho).2 with ⟨h3, _⟩ | ⟨b', c, h3, ⟨_, h4⟩, _⟩
        · rw [hb] at h3; cases h3
        · rw [hb] at h3; cases h3
          exact (Array.getElem?_eq_some_iff.1 h4).1
  · rename_i es hk hx
    refine OSem.pure hd fun A β a w hc => ?_
    have h2 := hc.eval x
    rw [hx] at h2
    obtain ⟨el, hel⟩ := TK.sl_of h.1
    have hel' : (mkTI P src).k.el = el := by rw [hel]; rfl
    have := str_of_es (dst := dst) hc h2 (by trivial) h.2.2 (und_slice hel) (und_int (hel' ▸ h.2.1)) (und_str hk)
    refine ⟨_, by simp only [execOp, this, Sem.run_bind, Sem.run_pure, Result.andThen_ok]; rfl, ?_⟩
    simp only [RepV, RepD, esOf]
    exact ⟨by first | rfl | trivial, trivial⟩
  · rename_i id off len hk hx
    refine OSem.pure hd fun A β a w hc => ?_
    have h2 := hc.eval x
    rw [hx] at h2
    obtain ⟨el, hel⟩ := TK.sl_of h.1
    have hel' : (mkTI P src).k.el = el := by rw [hel]; rfl
    have := str_of_es (dst := dst) hc h2 h.2.2.1 h.2.2.2 (und_slice hel) (und_int (hel' ▸ h.2.1)) (und_str hk)
    refine ⟨_, by simp only [execOp, this, Sem.run_bind, Sem.run_pure, Result.andThen_ok]; rfl, ?_⟩
    simp only [RepV, RepD]
    exact ⟨by first | rfl | trivial, trivial⟩
  · exact gen h
theorem aConv_upd {P src dst x H} : (aConv P src dst x H).upd = [] := by
  unfold aConv
  split
  · rfl
  · rfl
  · rfl
  · unfold aConvert; split <;> rfl
theorem sem_conv0 {P n d src dst x tr p e g E H} (hd : ∀ i, d = some i → i < n) (h : (aConv P src dst (evalA E x) H).pre) :
    OSem P n ⟨d, .convert src dst x, tr, p, e, g⟩ E H (aConv P src dst (evalA E x) H).res [] := by
  have := sem_conv (tr := tr) (p := p) (e := e) (g := g) hd h
  rw [aConv_upd] at this
  exact this
theorem aConv_congr {P src dst} {x : AV} {H H' : HF} (h : ∀ i ∈ x.ids, H' i = H i) : aConv P src dst x H' = aConv P src dst x H := by
  cases x with
  | arr id off len =>
    have e := h id (by simp [AV.ids])
    have e2 : esOf H' (.arr id off len) = esOf H (.arr id off len) := by simp only [esOf, e]
    have e3 : esOfP H' (.arr id off len) = esOfP H (.arr id off len) := by simp only [esOfP, e]
    unfold aConv
    cases (mkTI P dst).k <;> simp only [e2, e3]
  | d y => unfold aConv; cases (mkTI P dst).k <;> cases y <;> rfl
  | _ => unfold aConv; cases (mkTI P dst).k <;> rfl
end Go.AX
