import Derived.Test.YtmggphnhfegffaaAxU
import Derived.Scope
set_option linter.unusedVariables false
set_option linter.unusedSimpArgs false
namespace Go.AX

/-- What is still to do, from a state on, comes to its return in a state of 'R'. -/
def Walk0 (P : Program) (n nb : Nat) (todo : List Item) (R : St → Prop) (s : St) : Prop :=
  ∀ B : Base, B.ok nb → ∀ (a : Act) (w : World), Cf n B (eget s.e) (hget s.h) a w → ∀ (b : Frame) (cs : List Frame),
    ∃ a' w' todo' s', Steps P (lone (b.at a todo) cs w) (lone { b.at a' todo' with mode := .returning } cs w') ∧ R s' ∧ Cf n B (eget s'.e) (hget s'.h) a' w'

section
variable {P : Program} {n nb : Nat} {R : St → Prop} {s : St} {k : List Item}

theorem Walk0.of_step {todo todo' : List Item} (h : ∀ b a cs w, step P (lone (Frame.at b a todo) cs w) = .next (lone (b.at a todo') cs w)) (h' : Walk0 P n nb todo' R s) : Walk0 P n nb todo R s := by
  intro B hB a w hc b cs
  obtain ⟨a', w', t', s', h1, h2⟩ := h' B hB a w hc b cs
  exact ⟨a', w', t', s', .head (h b a cs w) h1, h2⟩
theorem Walk0.skip (h : Walk0 P n nb k R s) : Walk0 P n nb (.code .skip :: k) R s := .of_step (fun _ _ _ _ => step_skip) h
theorem Walk0.label {l : Nat} (h : Walk0 P n nb k R s) : Walk0 P n nb (.code (.label l) :: k) R s := .of_step (fun _ _ _ _ => step_label) h
theorem Walk0.inBlock {id : Nat} (h : Walk0 P n nb k R s) : Walk0 P n nb (.inBlock id :: k) R s := .of_step (fun _ _ _ _ => step_inBlock) h
theorem Walk0.inScope {c : Code} (h : Walk0 P n nb k R s) : Walk0 P n nb (.inScope c :: k) R s := .of_step (fun _ _ _ _ => step_inScope) h
theorem Walk0.seq {x y : Code} (h : Walk0 P n nb (.code x :: .code y :: k) R s) : Walk0 P n nb (.code (.seq x y) :: k) R s := .of_step (fun _ _ _ _ => step_seq) h
theorem Walk0.block {id : Nat} {c : Code} (h : Walk0 P n nb (.code c :: .inBlock id :: k) R s) : Walk0 P n nb (.code (.block id c) :: k) R s := .of_step (fun _ _ _ _ => step_block) h
theorem Walk0.scope {c : Code} (h : Walk0 P n nb (.code c :: .inScope c :: k) R s) : Walk0 P n nb (.code (.scope c) :: k) R s := .of_step (fun _ _ _ _ => step_scope) h
theorem Walk0.loop {c : Code} (h : Walk0 P n nb (.inLoop c :: k) R s) : Walk0 P n nb (.code (.loop c) :: k) R s := by
  intro B hB a w hc b cs
  obtain ⟨a', w', t', s', h1, h2⟩ := h B hB a w hc b cs
  refine ⟨a', w', t', s', ?_, h2⟩
  obtain ⟨m, hm⟩ := h1
  cases m with
  | zero =>
    simp only [runN, lone] at hm
    injection hm with hm
    injection hm with _ hg
    have := congrArg (·[0]?) hg
    simp [Frame.at] at this
  | succ m =>
    simp only [runN, step_inLoop] at hm
    exact ⟨m + 1, by simp only [runN, step_loop]; exact hm⟩
theorem Walk0.inLoop {c : Code} (h : Walk0 P n nb (.code c :: .inLoop c :: k) R s) : Walk0 P n nb (.inLoop c :: k) R s := .of_step (fun _ _ _ _ => step_inLoop) h
theorem Walk0.exit {id : Nat} {k' : List Item} (hk : exitTo id k = some k') (h : Walk0 P n nb k' R s) : Walk0 P n nb (.code (.exit id) :: k) R s := .of_step (fun _ _ _ _ => step_exit hk) h
theorem Walk0.ret (h : R s) : Walk0 P n nb (.code .ret :: k) R s := fun B hB a w hc b cs => ⟨a, w, _, s, .one step_ret, h, hc⟩
theorem Walk0.done (h : R s) : Walk0 P n nb [] R s := fun B hB a w hc b cs => ⟨a, w, _, s, .one step_end, h, hc⟩

/-- A branch: both ways. -/
theorem Walk0.cond {c : Operand} {x y : Code} {t : Bool} (hc : evalA (eget s.e) c = .d (.bool t)) (ht : t = true → Walk0 P n nb (.code x :: k) R s) (hf : t = false → Walk0 P n nb (.code y :: k) R s) :
    Walk0 P n nb (.code (.cond c x y) :: k) R s := by
  intro B hB a w hcf b cs
  obtain ⟨A, β, h1, h2⟩ := hcf
  have he := h1.eval c
  rw [hc] at he
  simp only [RepV, RepD] at he
  cases t with
  | true =>
    obtain ⟨a', w', t', s', g1, g2⟩ := ht rfl B hB a w ⟨A, β, h1, h2⟩ b cs
    exact ⟨a', w', t', s', .head (step_cond he) g1, g2⟩
  | false =>
    obtain ⟨a', w', t', s', g1, g2⟩ := hf rfl B hB a w ⟨A, β, h1, h2⟩ b cs
    exact ⟨a', w', t', s', .head (step_cond he) g1, g2⟩

/-- A region in the text's order. -/
theorem Walk0.region {id : Nat} {ops : Array Oper} {full : List Oper} (hf : ops = full.toArray) (h : VOps P n nb full full s none fun _ s' => Walk0 P n nb k R s') : Walk0 P n nb (.code (.region id ops false) :: k) R s := by
  subst hf
  intro B hB a w hc b cs
  have hw := VOps_run full hB full 0 s none a w rfl h hc
  rw [← List.range_eq_range'] at hw
  obtain ⟨e, a1, w1, ⟨rfl, lg, s1, hk, hc1⟩, harr⟩ := wp_ops _ a w hw b k cs
  obtain ⟨a', w', t', s', g1, g2⟩ := hk B hB a1 w1 hc1 b cs
  refine ⟨a', w', t', s', .head step_region ?_, g2⟩
  have e1 : List.range full.toArray.size = List.range full.length := by simp
  rw [e1]
  exact Steps.trans harr g1

theorem keep_drew (w : World) (β : BF) (i : Nat) (o : AObj) : Keep w { w with drawn := w.drawn + 1 } β β i o o := by
  cases o with
  | box _ => rfl
  | arr _ _ _ => exact ⟨rfl, rfl, Nat.le_refl _, fun _ => ⟨rfl, fun b hb => blkSize_of_heap rfl⟩⟩
theorem CfgF.drew' {n A β E H a w} (h : CfgF n A β E H a w) : CfgF n A β E H a { w with drawn := w.drawn + 1 } ∧ Trans w A β H { w with drawn := w.drawn + 1 } A β H := by
  have hk : ∀ i o', H i = some o' → ∃ o, H i = some o ∧ Keep w { w with drawn := w.drawn + 1 } β β i o o' := fun i o' ho => ⟨o', ho, keep_drew w β i o'⟩
  refine ⟨h.update (fun _ h => h) (fun _ _ => rfl) (fun i o' ho => .inl (hk i o' ho)) ?_, ?_⟩
  · refine ⟨fun id cs hi => ?_, fun id T sz es hi => ?_, h.heap.inj, h.heap.sepA, h.heap.bound⟩
    · obtain ⟨b, c, T, h1, h2, h3⟩ := h.heap.box id cs hi
      exact ⟨b, c, T, h1, h2, RepVs.stable (w := w) (w' := { w with drawn := w.drawn + 1 }) (fun _ h => h) (fun _ _ => rfl) _ _ (fun i _ o' ho => hk i o' ho) h3⟩
    · obtain ⟨h1, h2⟩ := h.heap.arr id T sz es hi
      exact ⟨h1, h2.imp (fun h => h) fun ⟨b, c, g1, g2, g3, g4⟩ => ⟨b, c, g1, g2, g3, RepEs.stable (w := w) (w' := { w with drawn := w.drawn + 1 }) (fun _ h => h) (fun _ _ => rfl) b sz rfl 0 es g4⟩⟩
  · exact ⟨Nat.le_refl _, rfl, rfl, rfl, fun _ _ _ => rfl, fun _ h => h, fun _ h => .inl h, fun i b hi hb => .inr ⟨i, hi, hb⟩, fun i o o' h1 h2 => by rw [h1] at h2; cases h2; exact keep_drew w β i o⟩

theorem Walk0.drawn {id : Nat} {ops : Array Oper} {full : List Oper} (hf : ops = full.toArray) (hm : P.follows .mixedOrders = true)
    (h : VOps P n nb full full s (some []) fun lg s' => ordOk full (lg.getD []).reverse = true ∧ newOk s (lg.getD []).reverse ∧ Walk0 P n nb k R s') : Walk0 P n nb (.code (.region id ops true) :: k) R s := by
  subst hf
  intro B hB a w hc b cs
  obtain ⟨ρ, sN, es, _, ⟨k1, k2, k3⟩, k4, k5, k6, k7⟩ := VOps_recs full 0 s s [] (fun _ => default) rfl h rfl rfl
  simp only [List.append_nil, Option.getD_some, List.reverse_reverse, Nat.zero_add] at k1 k2 k5 k6 k7
  have hc0 : Cf n B (eget s.e) (hget s.h) a { w with drawn := w.drawn + 1 } := by
    obtain ⟨A, β, g1, g2⟩ := hc
    exact ⟨A, β, g1.drew'.1, g2.comp g1.drew'.2 fun _ _ h => h⟩
  have hany := drawn_any (P := P) (nb := nb) hB (s := s) (ρ := ρ) (es := es) (full := full) (Q := fun e a' w' => e = .normal ∧ Cf n B (eget sN.e) (hget sN.h) a' w') k4 k5 k1 k2
    (fun a' w' hc' => ⟨rfl, by rw [k6, k7]; exact hc'⟩) full.length (Array.replicate full.length false) a { w with drawn := w.drawn + 1 } (by simp)
    (by simp [List.countP_replicate]) (fun i o ho hl => by
      rw [Array.getD_eq_getD_getElem?, Array.getElem?_replicate] at hl
      split at hl <;> simp at hl)
    (by
      have : ∀ m, stp s full ρ (fun i => (Array.replicate full.length false).getD i false) m = (eget s.e, hget s.h) := by
        intro m
        induction m with
        | zero => rfl
        | succ m ih =>
          have : (Array.replicate full.length false).getD m false = false := by
            rw [Array.getD_eq_getD_getElem?, Array.getElem?_replicate]
            split <;> rfl
          simp only [stp, this, Bool.false_eq_true, if_false, ih]
      rw [this]; exact hc0)
  have hw := wpAny_sound _ (w.tape w.drawn (.order b.fn id)) _ _ _ hany
  obtain ⟨e, a1, w1, ⟨rfl, hc1⟩, harr⟩ := wp_ops _ a _ hw b k cs
  obtain ⟨a', w', t', s', g1, g2⟩ := k3 B hB a1 w1 hc1 b cs
  refine ⟨a', w', t', s', .head step_region_draw ?_, g2⟩
  have e1 : Region.schedule (P.follows .mixedOrders) full.toArray (w.tape w.drawn (.order b.fn id)) = Region.linearise.go .any full.toArray full.length (w.tape w.drawn (.order b.fn id)) (Array.replicate full.length false) [] := by
    simp only [Region.schedule, hm, Bool.true_or, if_true]
    rfl
  rw [e1]
  exact Steps.trans harr g1
/-- The same, with what follows kept shut. -/
theorem Walk0.region' {id : Nat} {ops : Array Oper} {full : List Oper} (hf : ops = full.toArray) (h : ∀ K : St → Prop, (∀ s', Walk0 P n nb k R s' → K s') → VOps P n nb full full s none fun _ s' => K s') : Walk0 P n nb (.code (.region id ops false) :: k) R s :=
  .region hf (h _ fun _ h => h)
theorem Walk0.drawn' {id : Nat} {ops : Array Oper} {full : List Oper} (hf : ops = full.toArray) (hm : P.follows .mixedOrders = true)
    (h : ∀ K : Log → St → Prop, (∀ lg s', ordOk full (lg.getD []).reverse = true → newOk s (lg.getD []).reverse → Walk0 P n nb k R s' → K lg s') → VOps P n nb full full s (some []) K) : Walk0 P n nb (.code (.region id ops true) :: k) R s :=
  .drawn hf hm (h _ fun _ _ h1 h2 h3 => ⟨h1, h2, h3⟩)
end
end Go.AX
