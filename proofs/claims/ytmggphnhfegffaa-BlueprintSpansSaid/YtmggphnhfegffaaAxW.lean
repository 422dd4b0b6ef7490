import Derived.Test.YtmggphnhfegffaaAxV
set_option linter.unusedVariables false
set_option linter.unusedSimpArgs false
namespace Go.AX

/-- A part of an environment, of a heap. -/
def subE (E : EF) : EL → Prop
  | [] => True
  | (t, x) :: r => E t = x ∧ subE E r
def subH (H : HF) : HL → Prop
  | [] => True
  | (i, o) :: r => H i = o ∧ subH H r

theorem subE_get {E : EF} : ∀ {e : EL}, subE E e → ∀ t, eget e t = .any ∨ eget e t = E t
  | [], _, t => .inl rfl
  | (j, x) :: r, h, t => by
    simp only [eget]
    split
    · rename_i e; subst e; exact .inr h.1.symm
    · exact subE_get h.2 t
theorem subH_get {H : HF} : ∀ {h : HL}, subH H h → ∀ i, hget h i = none ∨ hget h i = H i
  | [], _, i => .inl rfl
  | (j, x) :: r, h, i => by
    simp only [hget]
    split
    · rename_i e; subst e; exact .inr h.1.symm
    · exact subH_get h.2 i

section
variable {P : Program} {n nb : Nat} {R : St → Prop} {s : St} {k : List Item}

theorem Walk0.weaken (s' : St) (hE : subE (eget s.e) s'.e) (hH : subH (hget s.h) s'.h) (h : Walk0 P n nb k R s') : Walk0 P n nb k R s := by
  intro B hB a w hc b cs
  obtain ⟨A, β, h1, h2⟩ := hc
  obtain ⟨g1, g2⟩ := h1.weaken (subE_get hE) (subH_get hH)
  refine h B hB a w ⟨A, β, g1, h2.comp g2 fun i _ hi => ?_⟩ b cs
  rcases subH_get hH i with h3 | h3
  · exact h3
  · rw [h3]; exact hi

theorem Walk0.mono {R' : St → Prop} (h : Walk0 P n nb k R s) (hR : ∀ s, R s → R' s) : Walk0 P n nb k R' s := by
  intro B hB a w hc b cs
  obtain ⟨a', w', t', s', h1, h2, h3⟩ := h B hB a w hc b cs
  exact ⟨a', w', t', s', h1, hR _ h2, h3⟩

theorem VOps_mono {full : List Oper} : ∀ (l : List Oper) {s : St} {lg : Log} {K K' : Log → St → Prop}, VOps P n nb full l s lg K → (∀ a b, K a b → K' a b) → VOps P n nb full l s lg K'
  | [], s, lg, K, K', h, hk => hk _ _ h
  | o :: r, s, lg, K, K', h, hk => by
    have one : ∀ {s : St} {lg : Log}, VOp P n nb o s lg (fun lg' s' => VOps P n nb full r s' lg' K) → VOp P n nb o s lg (fun lg' s' => VOps P n nb full r s' lg' K') := by
      intro s lg h
      unfold VOp at h ⊢
      split at h
      · obtain ⟨x, u, all, T, h1, h2, h3, h4⟩ := h
        exact ⟨x, u, all, T, h1, h2, h3, VOps_mono r h4 hk⟩
      · obtain ⟨h1, h2, h3, h4⟩ := h
        exact ⟨h1, h2, h3, VOps_mono r h4 hk⟩
    simp only [VOps] at h ⊢
    cases hg : o.guard with
    | none => simp only [hg] at h; exact one h
    | some jw =>
      obtain ⟨j, want⟩ := jw
      simp only [hg] at h ⊢
      cases hs : gslot full j with
      | none => simp only [hs] at h
      | some t =>
        simp only [hs] at h ⊢
        unfold VG at h ⊢
        split at h
        · exact ⟨fun e => one (h.1 e), fun e => ⟨(h.2 e).1, VOps_mono r (h.2 e).2 hk⟩⟩
        · exact ⟨h.1, VOps_mono r h.2 hk⟩
        · exact h
/-- The walk, with an end that does not hang on the world. -/
def Walk (P : Program) (n nb : Nat) (todo : List Item) (R : St → Prop) (s : St) : Prop := ∃ s', R s' ∧ Walk0 P n nb todo (fun t => t = s') s

theorem Walk.lift {todo todo' : List Item} {s t : St} (f : ∀ {R : St → Prop}, Walk0 P n nb todo R s → Walk0 P n nb todo' R t) (h : Walk P n nb todo R s) : Walk P n nb todo' R t := by
  obtain ⟨s', h1, h2⟩ := h
  exact ⟨s', h1, f h2⟩
theorem Walk.skip (h : Walk P n nb k R s) : Walk P n nb (.code .skip :: k) R s := h.lift .skip
theorem Walk.label {l : Nat} (h : Walk P n nb k R s) : Walk P n nb (.code (.label l) :: k) R s := h.lift .label
theorem Walk.inBlock {id : Nat} (h : Walk P n nb k R s) : Walk P n nb (.inBlock id :: k) R s := h.lift .inBlock
theorem Walk.inScope {c : Code} (h : Walk P n nb k R s) : Walk P n nb (.inScope c :: k) R s := h.lift .inScope
theorem Walk.seq {x y : Code} (h : Walk P n nb (.code x :: .code y :: k) R s) : Walk P n nb (.code (.seq x y) :: k) R s := h.lift .seq
theorem Walk.block {id : Nat} {c : Code} (h : Walk P n nb (.code c :: .inBlock id :: k) R s) : Walk P n nb (.code (.block id c) :: k) R s := h.lift .block
theorem Walk.scope {c : Code} (h : Walk P n nb (.code c :: .inScope c :: k) R s) : Walk P n nb (.code (.scope c) :: k) R s := h.lift .scope
theorem Walk.loop {c : Code} (h : Walk P n nb (.inLoop c :: k) R s) : Walk P n nb (.code (.loop c) :: k) R s := h.lift .loop
theorem Walk.inLoop {c : Code} (h : Walk P n nb (.code c :: .inLoop c :: k) R s) : Walk P n nb (.inLoop c :: k) R s := h.lift .inLoop
theorem Walk.exit {id : Nat} {k' : List Item} (hk : exitTo id k = some k') (h : Walk P n nb k' R s) : Walk P n nb (.code (.exit id) :: k) R s := h.lift (.exit hk)
theorem Walk.ret (h : R s) : Walk P n nb (.code .ret :: k) R s := ⟨s, h, .ret rfl⟩
theorem Walk.done (h : R s) : Walk P n nb [] R s := ⟨s, h, .done rfl⟩
theorem Walk.cond {c : Operand} {x y : Code} {t : Bool} (hc : evalA (eget s.e) c = .d (.bool t)) (ht : t = true → Walk P n nb (.code x :: k) R s) (hf : t = false → Walk P n nb (.code y :: k) R s) :
    Walk P n nb (.code (.cond c x y) :: k) R s := by
  cases t with
  | true => exact (ht rfl).lift fun h => .cond hc (fun _ => h) (fun h => by cases h)
  | false => exact (hf rfl).lift fun h => .cond hc (fun h => by cases h) (fun _ => h)

/-- A region's end does not hang on the world. -/
theorem VOps_pick {full : List Oper} : ∀ (l : List Oper) {s : St} {lg : Log} {K : Log → St → Prop}, VOps P n nb full l s lg K → ∃ lg' s', K lg' s' ∧ VOps P n nb full l s lg (fun a b => a = lg' ∧ b = s')
  | [], s, lg, K, h => ⟨lg, s, h, rfl, rfl⟩
  | o :: r, s, lg, K, h => by
    have one : ∀ {s : St} {lg : Log}, VOp P n nb o s lg (fun lg' s' => VOps P n nb full r s' lg' K) → ∃ lg' s', K lg' s' ∧ VOp P n nb o s lg (fun a b => VOps P n nb full r b a (fun a b => a = lg' ∧ b = s')) := by
      intro s lg h
      unfold VOp at h ⊢
      split at h
      · obtain ⟨x, u, all, T, h1, h2, h3, h4⟩ := h
        obtain ⟨lg', s', h5, h6⟩ := VOps_pick r h4
        exact ⟨lg', s', h5, x, u, all, T, h1, h2, h3, h6⟩
      · obtain ⟨h1, h2, h3, h4⟩ := h
        obtain ⟨lg', s', h5, h6⟩ := VOps_pick r h4
        exact ⟨lg', s', h5, h1, h2, h3, h6⟩
    simp only [VOps] at h ⊢
    cases hg : o.guard with
    | none => simp only [hg] at h; exact one h
    | some jw =>
      obtain ⟨j, want⟩ := jw
      simp only [hg] at h ⊢
      cases hs : gslot full j with
      | none => simp only [hs] at h
      | some t =>
        simp only [hs] at h ⊢
        cases hx : eget s.e t with
        | d y =>
          cases y with
          | bool g =>
            simp only [hx, VG] at h ⊢
            by_cases e : g = want
            · obtain ⟨lg', s', h5, h6⟩ := one (h.1 e)
              exact ⟨lg', s', h5, fun _ => h6, fun h => absurd e h⟩
            · obtain ⟨h1, h2⟩ := h.2 e
              obtain ⟨lg', s', h5, h6⟩ := VOps_pick r h2
              exact ⟨lg', s', h5, fun h => absurd h e, fun _ => ⟨h1, h6⟩⟩
          | _ => simp only [hx, VG] at h
        | tup vs =>
          cases vs with
          | nil =>
            simp only [hx, VG] at h ⊢
            obtain ⟨h1, h2⟩ := h
            obtain ⟨lg', s', h5, h6⟩ := VOps_pick r h2
            exact ⟨lg', s', h5, h1, h6⟩
          | cons _ _ => simp only [hx, VG] at h
        | _ => simp only [hx, VG] at h

theorem Walk.region' {id : Nat} {ops : Array Oper} {full : List Oper} (hf : ops = full.toArray) (h : ∀ K : St → Prop, (∀ s', Walk P n nb k R s' → K s') → VOps P n nb full full s none fun _ s' => K s') : Walk P n nb (.code (.region id ops false) :: k) R s := by
  obtain ⟨lg', s', ⟨t, h1, h2⟩, h3⟩ := VOps_pick full (h _ fun _ h => h)
  refine ⟨t, h1, .region' hf fun K hK => ?_⟩
  have := VOps_mono full h3 (K' := fun _ b => K b) (fun a b hb => by obtain ⟨_, rfl⟩ := hb; exact hK _ h2)
  exact this
theorem Walk.drawn' {id : Nat} {ops : Array Oper} {full : List Oper} (hf : ops = full.toArray) (hm : P.follows .mixedOrders = true)
    (h : ∀ K : Log → St → Prop, (∀ lg s', ordOk full (lg.getD []).reverse = true → newOk s (lg.getD []).reverse → Walk P n nb k R s' → K lg s') → VOps P n nb full full s (some []) K) : Walk P n nb (.code (.region id ops true) :: k) R s := by
  obtain ⟨lg', s', ⟨g1, g2, t, h1, h2⟩, h3⟩ := VOps_pick full (h (fun lg s' => ordOk full (lg.getD []).reverse = true ∧ newOk s (lg.getD []).reverse ∧ Walk P n nb k R s') fun _ _ h1 h2 h3 => ⟨h1, h2, h3⟩)
  refine ⟨t, h1, .drawn' hf hm fun K hK => ?_⟩
  exact VOps_mono full h3 (fun a b hb => by obtain ⟨rfl, rfl⟩ := hb; exact hK _ _ g1 g2 h2)
theorem Walk.weaken (s' : St) (hE : subE (eget s.e) s'.e) (hH : subH (hget s.h) s'.h) (h : Walk P n nb k R s') : Walk P n nb k R s := h.lift fun h => .weaken s' hE hH h
theorem Walk.mono {R' : St → Prop} (h : Walk P n nb k R s) (hR : ∀ s, R s → R' s) : Walk P n nb k R' s := by
  obtain ⟨s', h1, h2⟩ := h
  exact ⟨s', hR _ h1, h2⟩

/-- A loop: from every state of the family round to another with a lesser measure, or out. -/
theorem Walk.loopI {G : Type} (S : G → St) (I : G → Prop) (μ : G → Nat) {c : Code}
    (h : ∀ g, I g → (∀ g', I g' → μ g' < μ g → Walk P n nb (.inLoop c :: k) R (S g')) → Walk P n nb (.code c :: .inLoop c :: k) R (S g)) :
    ∀ g, I g → Walk P n nb (.inLoop c :: k) R (S g) := by
  have key : ∀ m g, μ g = m → I g → Walk P n nb (.inLoop c :: k) R (S g) := by
    intro m
    induction m using Nat.strongRecOn with
    | _ m ih =>
      intro g hm hI
      exact .inLoop (h g hI fun g' hI' hlt => ih (μ g') (by omega) g' rfl hI')
  exact fun g hI => key _ g rfl hI
end

/-! ### a function -/
def argE (k : Nat) : List AV → EL
  | [] => []
  | x :: r => (k, x) :: argE (k + 1) r
def retAV : List AV → AV
  | [x] => x
  | xs => .tup xs

theorem argE_get : ∀ (xs : List AV) (k t : Nat), eget (argE k xs) t = if t < k then .any else (xs[t - k]?).getD .any
  | [], k, t => by simp [argE, eget]
  | x :: r, k, t => by
    simp only [argE, eget]
    by_cases e : t = k
    · subst e; simp
    · rw [if_neg e, argE_get r (k + 1) t]
      by_cases h : t < k
      · rw [if_pos (by omega), if_pos h]
      · rw [if_neg (by omega), if_neg h, show t - k = (t - (k + 1)) + 1 by omega, List.getElem?_cons_succ]

theorem RepVs.get2 {w A β H} : ∀ {xs : List AV} {vs : List Value}, RepVs w A β H xs vs → xs.length = vs.length ∧ ∀ (j : Nat) (v : Value), vs[j]? = some v → ∃ x, xs[j]? = some x ∧ RepV w A β H x v
  | [], vs, h => by
    simp only [RepVs] at h
    subst h
    exact ⟨rfl, fun j v h => by simp at h⟩
  | x :: r, vs, h => by
    simp only [RepVs] at h
    obtain ⟨v, t, rfl, h1, h2⟩ := h
    obtain ⟨g1, g2⟩ := RepVs.get2 h2
    refine ⟨by simp [g1], fun j v' hj => ?_⟩
    cases j with
    | zero => simp at hj; subst hj; exact ⟨x, by simp, h1⟩
    | succ j =>
      obtain ⟨y, hy, hr⟩ := g2 j v' (by simpa using hj)
      exact ⟨y, by simpa using hy, hr⟩

theorem RepVs.ofTmps {n A β E H a w} (h : CfgF n A β E H a w) : ∀ ts : List Nat, RepVs w A β H (ts.map E) (ts.map fun t => a.tmps.getD t undef)
  | [] => by simp only [List.map_nil, RepVs]
  | t :: r => by
    simp only [List.map_cons, RepVs]
    exact ⟨_, _, rfl, h.env t, RepVs.ofTmps h r⟩

def retV : List Value → Value
  | [v] => v
  | vs => .tuple vs.toArray
/-- The results are these slots. -/
def ResOk (P : Program) (fn : Func) (ts : List Nat) : Prop := ∀ tmps w, (results fn tmps).run P w = .ok (retV (ts.map fun t => tmps.getD t undef)) w
theorem ResOk.zero {P fn} (h : fn.results = #[]) : ResOk P fn [] := fun _ _ => by simp [results, h, retV]
theorem ResOk.one {P fn a} (h : fn.results = #[.tmp a]) : ResOk P fn [a] := fun _ _ => by simp [results, h, retV]
theorem ResOk.two {P fn a b} (h : fn.results = #[.tmp a, .tmp b]) : ResOk P fn [a, b] := fun _ _ => by simp [results, h, retV]
theorem ResOk.three {P fn a b c} (h : fn.results = #[.tmp a, .tmp b, .tmp c]) : ResOk P fn [a, b, c] := fun _ _ => by simp [results, h, retV]
theorem ResOk.four {P fn a b c d} (h : fn.results = #[.tmp a, .tmp b, .tmp c, .tmp d]) : ResOk P fn [a, b, c, d] := fun _ _ => by simp [results, h, retV]

theorem ACalls.of_walk0 {P : Program} {f : FuncId} {args : List AV} {h : HL} {r : AV} {h' : HL} {fn : Func} {c : Code} {n : Nat} (nb : Nat) (ts : List Nat) (hf : P.funcs[f]? = some fn) (hb : fn.body = some c)
    (hn : (fn.name == "runtime.NumGoroutine") = false) (hr : ResOk P fn ts) (hnt : fn.ntmps = n) (hsz : args.length ≤ n) (hnb : ∀ i, hget h i ≠ none → i < nb)
    (hs : Walk0 P n nb [.code c] (fun s' => retAV (ts.map (eget s'.e)) = r ∧ subH (hget s'.h) h') ⟨argE 0 args, h⟩) : ACalls P f args h r h' := by
  subst hnt
  refine ⟨⟨fn, hf, by simp [hb], hn⟩, fun A β w vs hv hh => ?_⟩
  obtain ⟨hlen, hget⟩ := hv.get2
  have hlen' : vs.size = args.length := by simpa using hlen.symm
  intro cs
  let b : Frame := { (default : Frame) with fn := f, kind := .normal }
  have henter : Frame.enter P f vs .normal = b.at { tmps := vs ++ Array.replicate (fn.ntmps - vs.size) undef, defers := [] } [.code c] := by
    simp [Frame.enter, Frame.at, hf, hb, b]
  have hcfg : CfgF fn.ntmps A β (eget (argE 0 args)) (AX.hget h) { tmps := vs ++ Array.replicate (fn.ntmps - vs.size) undef, defers := [] } w := by
    refine ⟨by simp; omega, rfl, fun t => ?_, hh⟩
    rw [argE_get]
    simp only [Nat.not_lt_zero, if_false, Nat.sub_zero]
    by_cases ht : t < vs.size
    · have h1 : (vs ++ Array.replicate (fn.ntmps - vs.size) undef).getD t undef = vs[t] := by
        rw [Array.getD_eq_getD_getElem?, Array.getElem?_append_left ht]; simp [ht]
      rw [h1]
      obtain ⟨x, hx, hrx⟩ := hget t vs[t] (by simp [ht])
      rw [hx]; exact hrx
    · have : args[t]? = none := by rw [List.getElem?_eq_none_iff]; omega
      rw [this]; simp only [Option.getD_none, RepV]
  obtain ⟨a', w', t', s', g1, ⟨g2, g3⟩, A', β', g4, g5⟩ := hs ⟨w, A, β, AX.hget h⟩ hnb _ w ⟨A, β, hcfg, Trans.refl _ _ _ _⟩ b cs
  obtain ⟨g6, g7⟩ := g4.weaken (E' := eget s'.e) (fun _ => .inr rfl) (subH_get g3)
  rw [henter]
  refine ⟨.returned (retV (ts.map fun t => a'.tmps.getD t undef)), w', _, ⟨_, A', β', rfl, ?_, g6.heap, g5.comp g7 fun i _ hi => ?_⟩, g1, rfl, rfl, g4.defers, rfl, fn, hf, hr _ _⟩
  · have := RepVs.ofTmps g6 ts
    rw [← g2]
    match ts, this with
    | [], this => simp only [List.map_nil, retAV, retV, RepV]; exact ⟨_, rfl, by simp [RepVs]⟩
    | [t], this => simp only [List.map_cons, List.map_nil, retAV, retV]; exact g6.env t
    | t1 :: t2 :: r, this => simp only [List.map_cons, retAV, retV, RepV]; exact ⟨_, rfl, by simpa using this⟩
  · rcases subH_get g3 i with h3 | h3
    · exact h3
    · rw [h3]; exact hi
theorem ACalls.of_sem {P : Program} {f : FuncId} {args : List AV} {h : HL} {r : AV} {h' : HL} {fn : Func} {c : Code} {n : Nat} (nb : Nat) (ts : List Nat) (hf : P.funcs[f]? = some fn) (hb : fn.body = some c)
    (hn : (fn.name == "runtime.NumGoroutine") = false) (hr : ResOk P fn ts) (hnt : fn.ntmps = n) (hsz : args.length ≤ n) (hnb : ∀ i, hget h i ≠ none → i < nb)
    (hs : Walk P n nb [.code c] (fun s' => retAV (ts.map (eget s'.e)) = r ∧ subH (hget s'.h) h') ⟨argE 0 args, h⟩) : ACalls P f args h r h' := by
  obtain ⟨s', h1, h2⟩ := hs
  exact .of_walk0 nb ts hf hb hn hr hnt hsz hnb (h2.mono fun t ht => by rw [ht]; exact h1)
/-- The contract of a function of which not all is said. -/
theorem ACalls.of_rel {P : Program} {f : FuncId} {args : List AV} {h : HL} {fn : Func} {c : Code} {n : Nat} (Q : AV → HL → Prop) (nb : Nat) (ts : List Nat) (hf : P.funcs[f]? = some fn) (hb : fn.body = some c)
    (hn : (fn.name == "runtime.NumGoroutine") = false) (hr : ResOk P fn ts) (hnt : fn.ntmps = n) (hsz : args.length ≤ n) (hnb : ∀ i, hget h i ≠ none → i < nb)
    (hs : Walk P n nb [.code c] (fun s' => ∃ h', subH (hget s'.h) h' ∧ Q (retAV (ts.map (eget s'.e))) h') ⟨argE 0 args, h⟩) : ∃ r h', Q r h' ∧ ACalls P f args h r h' := by
  obtain ⟨s', ⟨h', h0, h1⟩, h2⟩ := hs
  exact ⟨_, h', h1, .of_walk0 nb ts hf hb hn hr hnt hsz hnb (h2.mono fun t ht => by rw [ht]; exact ⟨rfl, h0⟩)⟩
end Go.AX
