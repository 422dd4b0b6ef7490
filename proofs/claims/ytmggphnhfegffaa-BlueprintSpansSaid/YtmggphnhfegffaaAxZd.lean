import Derived.Test.YtmggphnhfegffaaAxZc
import Derived.Below
set_option linter.unusedVariables false
set_option linter.unusedSimpArgs false
namespace Go.AX

/-! ### a law -/
theorem RepEs.ofInts {w : World} {A : Nat → Prop} {b : Nat} : ∀ (l : List Int) (o : Nat), (∀ i, i < l.length → w.cell? ⟨b, o + i, none⟩ = some (.int .i64 (l.getD i 0))) → RepEs w A b 1 o (ints l)
  | [], _, _ => by simp only [ints, List.map_nil, RepEs]
  | x :: r, o, h => by
    simp only [ints, List.map_cons, RepEs, RepCs, List.length_cons, List.length_nil, and_true, true_and]
    refine ⟨⟨.int .i64 x, by simpa using h 0 (by simp), by simp only [RepD]; exact ⟨by trivial, trivial⟩⟩, ?_⟩
    exact RepEs.ofInts r (o + 1) fun i hi => by
      have := h (i + 1) (by simpa using hi)
      rw [Nat.add_assoc, Nat.add_comm 1 i]
      simpa using this

/-- A slice of integers that came in, as data. -/
theorem rep_row {w : World} {a : Option Addr} {len cap : Nat} {zs : List Int}
    (h : (a = none ∧ len = 0 ∧ cap = 0 ∧ zs = []) ∨ ∃ x, a = some x ∧ len ≤ cap ∧ cap ≤ maxLen ∧ zs.length = cap ∧ (∀ i, i < zs.length → w.cell? (x.add i) = some (.int .i64 (zs.getD i 0))) ∧ ∀ n ∈ zs, (Lit.int .i64 n).wf = true) :
    RepV w (fun b => b < w.heap.size) (fun _ => none) (hget []) (.d (.sl (ints (zs.take len)))) (.slice a len cap) := by
  simp only [RepV, RepD, ints_len]
  rcases h with ⟨rfl, rfl, rfl, rfl⟩ | ⟨x, rfl, hl, hm, hz, hcell, _⟩
  · exact ⟨none, 0, by simp, by simp, trivial, .inl (by simp [ints])⟩
  · have hlen : (zs.take len).length = len := by simp; omega
    rw [hlen]
    refine ⟨some x, cap, rfl, hl, trivial, ?_⟩
    by_cases h0 : len = 0
    · subst h0; exact .inl (by simp [ints])
    obtain ⟨b, off, spot⟩ := x
    have hc := hcell 0 (by omega)
    have hspot : spot = none := by simpa [Addr.add] using World.cell?_spot hc
    subst hspot
    have hb : b < w.heap.size := World.block_lt_of_cell? w _ hc
    refine .inr ⟨b, off, 1, rfl, hb, RepEs.ofInts _ off fun i hi => ?_⟩
    have := hcell i (by omega)
    have e : (⟨b, off, none⟩ : Addr).add i = ⟨b, off + i, none⟩ := by
      simp only [Addr.add]
      split
      · rename_i h; subst h; rfl
      · rfl
    rw [e] at this
    rw [this]
    rw [hlen] at hi
    congr 2
    simp [hi]

theorem RepVs.nil' {w A β H} : RepVs w A β H [] [] := by simp only [RepVs]
theorem RepVs.cons' {w A β H x v xs vs} (h : RepV w A β H x v) (t : RepVs w A β H xs vs) : RepVs w A β H (x :: xs) (v :: vs) := by
  simp only [RepVs]; exact ⟨_, _, rfl, h, t⟩

theorem law_walk {P : Program} {f : FuncId} {args : List AV} {w : World} {vs : Array Value} (hc : ACalls P f args [] (.d (.bool true)) []) (hv : RepVs w (fun b => b < w.heap.size) (fun _ => none) (hget []) args vs.toList) :
    Calls P f vs w fun e w' => e = .returned (.bool true) ∧ Go.RowKit.Below w.heap.size w w' := by
  refine Calls.mono (hc.2 _ _ w vs hv ⟨fun id cs h => by simp [hget] at h, fun id T sz es h => by simp [hget] at h, fun i j b h => by simp [hget] at h, fun i b h => by simp [hget] at h, fun _ h => h⟩) fun e w' => ?_
  rintro ⟨v, A', β', rfl, h1, _, h3⟩
  simp only [RepV, RepD] at h1
  subst h1
  exact ⟨rfl, h3.os, h3.tape, h3.output, h3.size, fun b hb => h3.same b hb fun i hi => by simp [hget] at hi⟩
end Go.AX
