import Derived.Test.YtmggphnhfegffaaA2
import Derived.Test.YtmggphnhfegffaaProg
import Derived.KernelRfl
set_option linter.unusedVariables false
set_option linter.unusedSimpArgs false
set_option linter.unusedSectionVars false
namespace Go.AX

/-! ### functions that say what Go code computes: 'none' where nothing is promised -/
section
variable {σ ρ τ : Type}
def chk (p : Prop) [Decidable p] (k : Option ρ) : Option ρ := if p then k else none
def rd (l : List τ) (i : Int) : Option τ := if 0 ≤ i then l[i.toNat]? else none
def contO (s : σ) : Option (σ ⊕ ρ) := some (.inl s)
def exitO (r : Option ρ) : Option (σ ⊕ ρ) := r.map .inr
/-- Rounds of a loop. -/
def iterN (f : σ → Option (σ ⊕ ρ)) : Nat → σ → Option ρ
  | 0, _ => none
  | k + 1, s => match f s with
    | none => none
    | some (.inl s') => iterN f k s'
    | some (.inr r) => some r
open Classical in
noncomputable def iter (f : σ → Option (σ ⊕ ρ)) (s : σ) : Option ρ := if h : ∃ k, (iterN f k s).isSome then iterN f h.choose s else none

theorem iterN_det {f : σ → Option (σ ⊕ ρ)} : ∀ {k m : Nat} {s : σ} {r r' : ρ}, iterN f k s = some r → iterN f m s = some r' → r = r'
  | 0, _, _, _, _, h, _ => by simp [iterN] at h
  | _ + 1, 0, _, _, _, _, h => by simp [iterN] at h
  | k + 1, m + 1, s, r, r', h, h' => by
    simp only [iterN] at h h'
    cases hf : f s with
    | none => simp [hf] at h
    | some x =>
      cases x with
      | inl s' => simp only [hf] at h h'; exact iterN_det h h'
      | inr y => simp only [hf] at h h'; cases h; cases h'; rfl
theorem iter_iff {f : σ → Option (σ ⊕ ρ)} {s : σ} {r : ρ} : iter f s = some r ↔ ∃ k, iterN f k s = some r := by
  unfold iter
  constructor
  · intro h
    split at h
    · exact ⟨_, h⟩
    · cases h
  · rintro ⟨k, hk⟩
    have h : ∃ k, (iterN f k s).isSome := ⟨k, by simp [hk]⟩
    rw [dif_pos h]
    obtain ⟨r', hr'⟩ := Option.isSome_iff_exists.1 h.choose_spec
    rw [hr', iterN_det hr' hk]
theorem iter_cont {f : σ → Option (σ ⊕ ρ)} {s s' : σ} (h : f s = contO s') : iter f s = iter f s' := by
  apply Option.ext
  intro r
  rw [iter_iff, iter_iff]
  constructor
  · rintro ⟨k, hk⟩
    cases k with
    | zero => simp [iterN] at hk
    | succ k => simp only [iterN, h, contO] at hk; exact ⟨k, hk⟩
  · rintro ⟨k, hk⟩
    exact ⟨k + 1, by simp only [iterN, h, contO]; exact hk⟩
theorem iter_exit {f : σ → Option (σ ⊕ ρ)} {s : σ} {x : Option ρ} (h : f s = exitO x) : iter f s = x := by
  apply Option.ext
  intro r
  rw [iter_iff]
  constructor
  · rintro ⟨k, hk⟩
    cases k with
    | zero => simp [iterN] at hk
    | succ k =>
      simp only [iterN, h, exitO] at hk
      cases x with
      | none => simp at hk
      | some y => simpa using hk
  · rintro rfl
    exact ⟨1, by simp [iterN, h, exitO]⟩
theorem iter_none {f : σ → Option (σ ⊕ ρ)} {s : σ} (h : f s = none) : iter f s = none := by
  rw [Option.eq_none_iff_forall_ne_some]
  intro r hr
  obtain ⟨k, hk⟩ := iter_iff.1 hr
  cases k <;> simp [iterN, h] at hk
theorem iter_rec {f : σ → Option (σ ⊕ ρ)} {r : ρ} {W : σ → Prop} (step : ∀ s y, f s = some y → (∀ s', y = .inl s' → W s') → (∀ z, y = .inr z → z = r) → W s) :
    ∀ s, iter f s = some r → W s := by
  intro s h
  obtain ⟨k, hk⟩ := iter_iff.1 h
  clear h
  induction k generalizing s with
  | zero => simp [iterN] at hk
  | succ k ih =>
    simp only [iterN] at hk
    cases hf : f s with
    | none => simp [hf] at hk
    | some y =>
      refine step s y hf (fun s' e => ?_) (fun z e => ?_)
      · subst e; simp only [hf] at hk; exact ih s' hk
      · subst e; simp only [hf] at hk; cases hk; rfl

theorem chk_elim {p : Prop} [Decidable p] {k : Option ρ} {x : ρ} (h : chk p k = some x) : p ∧ k = some x := by
  unfold chk at h
  split at h
  · exact ⟨‹_›, h⟩
  · cases h
theorem bind_elim {a : Option τ} {K : τ → Option ρ} {x : ρ} (h : a.bind K = some x) : ∃ y, a = some y ∧ K y = some x := by
  cases a with
  | none => cases h
  | some y => exact ⟨y, rfl, h⟩
theorem rd_some {l : List τ} {i : Int} {y : τ} (h : rd l i = some y) : 0 ≤ i ∧ i < l.length ∧ l[i.toNat]? = some y := by
  unfold rd at h
  split at h
  · refine ⟨‹_›, ?_, h⟩
    obtain ⟨h1, _⟩ := List.getElem?_eq_some_iff.1 h
    omega
  · cases h
theorem rd_elim {l : List τ} {i : Int} {K : τ → Option ρ} {x : ρ} (h : (rd l i).bind K = some x) :
    ∃ y, rd l i = some y ∧ 0 ≤ i ∧ i < l.length ∧ (∀ (f : τ → List D) (j : Nat), j = i.toNat → (l.map f).getD j [] = f y) ∧ K y = some x := by
  obtain ⟨y, hy, hx⟩ := bind_elim h
  obtain ⟨h1, h2, h3⟩ := rd_some hy
  refine ⟨y, hy, h1, h2, fun f j hj => ?_, hx⟩
  subst hj
  simp [List.getD_eq_getElem?_getD, h3]
theorem exit_elim {r : Option ρ} {y : σ ⊕ ρ} (h : exitO r = some y) : ∃ z, y = .inr z ∧ r = some z := by
  unfold exitO at h
  cases r with
  | none => cases h
  | some z => simp at h; exact ⟨z, h.symm, rfl⟩
theorem cont_elim {s : σ} {y : σ ⊕ ρ} (h : contO s = some y) : y = .inl s := by
  unfold contO at h
  cases h; rfl
end

section
variable {P : Program} {n nb : Nat} {R : St → Prop} {s : St} {k : List Item} {σ ρ : Type}
theorem Walk.iter {c : Code} (S : σ → St) (f : σ → Option (σ ⊕ ρ)) (r : ρ)
    (step : ∀ g y, f g = some y → (∀ g', y = .inl g' → Walk P n nb (.inLoop c :: k) R (S g')) → (∀ z, y = .inr z → z = r) → Walk P n nb (.code c :: .inLoop c :: k) R (S g)) :
    ∀ g, AX.iter f g = some r → Walk P n nb (.inLoop c :: k) R (S g) :=
  iter_rec (W := fun g => Walk P n nb (.inLoop c :: k) R (S g)) fun g y h1 h2 h3 => .inLoop (step g y h1 h2 h3)
theorem Walk.condT {c : Operand} {x y : Code} (hc : evalA (eget s.e) c = .d (.bool true)) (h : Walk P n nb (.code x :: k) R s) : Walk P n nb (.code (.cond c x y) :: k) R s :=
  .cond hc (fun _ => h) (fun h => by cases h)
theorem Walk.condF {c : Operand} {x y : Code} (hc : evalA (eget s.e) c = .d (.bool false)) (h : Walk P n nb (.code y :: k) R s) : Walk P n nb (.code (.cond c x y) :: k) R s :=
  .cond hc (fun h => by cases h) (fun _ => h)
theorem Walk.condO {c : Operand} {a b : Code} {t : Bool} {A B : Option ρ} {x : ρ} (hc : evalA (eget s.e) c = .d (.bool t)) (hx : (bif t then A else B) = some x)
    (ht : t = true → A = some x → Walk P n nb (.code a :: k) R s) (hf : t = false → B = some x → Walk P n nb (.code b :: k) R s) : Walk P n nb (.code (.cond c a b) :: k) R s :=
  .cond hc (fun h => ht h (by subst h; exact hx)) (fun h => hf h (by subst h; exact hx))
theorem VGdO {full : List Oper} {o : Oper} {w : Bool} {r : List Oper} {lg : Log} {K : Log → St → Prop} {t : Bool} {A B : Option ρ} {x : ρ} (hx : (bif t then A else B) = some x)
    (ht : t = true → A = some x → VGd P n nb full o w r s lg K (.d (.bool true))) (hf : t = false → B = some x → VGd P n nb full o w r s lg K (.d (.bool false))) :
    VGd P n nb full o w r s lg K (.d (.bool t)) :=
  VGd_cases (fun h => ht h (by subst h; exact hx)) (fun h => hf h (by subst h; exact hx))
/-- Ways that come together. -/
theorem Walk.join {c : Code} {G : Type} (S : G → St) (J : G → Option ρ) {x : ρ} {E : Option ρ} (_ : E = some x) (h1 : ∀ g, J g = some x → Walk P n nb k R (S g))
    (h2 : (∀ g, J g = some x → Walk P n nb k R (S g)) → Walk P n nb (.code c :: k) R s) : Walk P n nb (.code c :: k) R s := h2 h1

/-! ### another name for an object -/
theorem CfgF.rename {A β E H a w} (h : CfgF n A β E H a w) {id nm : Nat} (hn : Fresh nm E H) :
    CfgF n A (fun i => β (swp id nm i)) (fun t => (E t).ren (swp id nm)) (renH (swp id nm) H) a w ∧ Trans w A β H w A (fun i => β (swp id nm i)) (renH (swp id nm) H) := by
  have hπ := swp_swp id nm
  refine ⟨⟨h.size, h.defers, fun t => (RepV.ren hπ (E t) _).2 (h.env t), (HRel.ren hπ).2 h.heap⟩, Nat.le_refl _, rfl, rfl, rfl, fun _ _ _ => rfl, fun _ h => h, fun _ h => .inl h, fun i b hi hb => .inr ⟨swp id nm i, (renH_none hπ).1 hi, hb⟩, fun i o o' ho ho' => ?_⟩
  simp only [renH, Option.map_eq_some_iff] at ho'
  obtain ⟨o1, h1, rfl⟩ := ho'
  by_cases e1 : i = id
  · subst e1
    by_cases e2 : i = nm
    · subst e2
      simp only [swp, if_true] at h1
      rw [ho] at h1; cases h1
      cases o with
      | box cs => simp only [AObj.ren, Keep, swp, if_true]
      | arr T sz es => exact ⟨rfl, rfl, Nat.le_refl _, fun _ => ⟨by simp [swp], fun _ _ => rfl⟩⟩
    · simp only [swp, if_true] at h1
      rw [hn.1] at h1; cases h1
  · by_cases e2 : i = nm
    · subst e2; rw [hn.1] at ho; cases ho
    · simp only [swp, e1, e2, if_false] at h1
      rw [ho] at h1; cases h1
      cases o with
      | box cs => simp only [AObj.ren, Keep, swp, e1, e2, if_false]
      | arr T sz es => exact ⟨rfl, rfl, Nat.le_refl _, fun _ => ⟨by simp [swp, e1, e2], fun _ _ => rfl⟩⟩
def renE (π : Nat → Nat) : EL → EL
  | [] => []
  | (t, x) :: r => (t, x.ren π) :: renE π r
theorem eget_renE (π : Nat → Nat) : ∀ (e : EL) (t : Nat), eget (renE π e) t = (eget e t).ren π
  | [], t => by simp [renE, eget, AV.ren]
  | (j, x) :: r, t => by
    simp only [renE, eget]
    split
    · rfl
    · exact eget_renE π r t
theorem Walk.rename (id nm : Nat) (hnb : nb ≤ nm) (hid : nb ≤ id) (f1 : freshE nm s.e) (f2 : freshH nm s.h) (h : Walk P n nb k R ⟨renE (swp id nm) s.e, renL (swp id nm) s.h⟩) : Walk P n nb k R s := by
  have hfr : Fresh nm (eget s.e) (hget s.h) := fresh_of f1 f2
  refine h.ghost _ (fun A β a w hc => ?_) fun i hn hs => ?_
  · obtain ⟨g1, g2⟩ := hc.rename (id := id) hfr
    rw [hget_renL (swp_swp id nm)]
    have e : (fun t => (eget s.e t).ren (swp id nm)) = eget (renE (swp id nm) s.e) := by funext t; rw [eget_renE]
    rw [e] at g1
    exact ⟨A, _, g1, g2⟩
  · rw [hget_renL (swp_swp id nm)] at hs
    rw [renH_none (swp_swp id nm)] at hs
    by_cases e1 : i = id
    · omega
    · by_cases e2 : i = nm
      · omega
      · simp only [swp, e1, e2, if_false] at hs; exact absurd hn hs

/-! ### nil taken as data -/
def nlV (x x' : AV) : Prop := x = x' ∨ (x = .nils ∧ x' = .d (.sl []))
def nlVs : List AV → List AV → Prop
  | [], [] => True
  | x :: r, x' :: r' => nlV x x' ∧ nlVs r r'
  | _, _ => False
def nlE (E : EF) : EL → Prop
  | [] => True
  | (t, x) :: r => nlV (E t) x ∧ nlE E r
def nlO : Option AObj → Option AObj → Prop
  | some (.box cs), some (.box cs') => nlVs cs cs'
  | o, o' => o = o'
def nlH (H : HF) : HL → Prop
  | [] => True
  | (i, o) :: r => nlO (H i) o ∧ nlH H r
theorem nlV_refl (x : AV) : nlV x x = True := by simp [nlV]
theorem nlV_nil : nlV .nils (.d (.sl [])) = True := by simp [nlV]
theorem nlVs_refl : ∀ cs : List AV, nlVs cs cs
  | [] => trivial
  | x :: r => ⟨.inl rfl, nlVs_refl r⟩
theorem nlO_refl (o : Option AObj) : nlO o o = True := by
  cases o with
  | none => simp [nlO]
  | some o => cases o with
    | box cs => simp [nlO, nlVs_refl]
    | arr _ _ _ => simp [nlO]
theorem nlO_box (cs cs' : List AV) : nlO (some (.box cs)) (some (.box cs')) = nlVs cs cs' := rfl
theorem nlV_rep {w A β H} {x x' : AV} (h : nlV x x') {v} (hv : RepV w A β H x v) : RepV w A β H x' v := by
  rcases h with rfl | ⟨rfl, rfl⟩
  · exact hv
  · simp only [RepV] at hv
    obtain ⟨a, rfl⟩ := hv
    simp only [RepV, RepD]
    exact ⟨a, 0, by simp, by simp, trivial, by simp⟩
theorem nlVs_rep {w A β H} : ∀ {x x' : List AV}, nlVs x x' → ∀ {v}, RepVs w A β H x v → RepVs w A β H x' v
  | [], [], _, v, hv => hv
  | x :: r, x' :: r', h, v, hv => by
    simp only [RepVs] at hv ⊢
    obtain ⟨v, t, rfl, h1, h2⟩ := hv
    exact ⟨v, t, rfl, nlV_rep h.1 h1, nlVs_rep h.2 h2⟩
  | [], _ :: _, h, _, _ => by simp only [nlVs] at h
  | _ :: _, [], h, _, _ => by simp only [nlVs] at h
theorem nlE_get {E} : ∀ {e : EL}, nlE E e → ∀ t, eget e t = .any ∨ nlV (E t) (eget e t)
  | [], _, t => .inl rfl
  | (j, x) :: r, h, t => by
    simp only [eget]
    split
    · rename_i e; subst e; exact .inr h.1
    · exact nlE_get h.2 t
theorem nlH_get {H} : ∀ {h : HL}, nlH H h → ∀ i, hget h i = none ∨ nlO (H i) (hget h i)
  | [], _, i => .inl rfl
  | (j, x) :: r, h, i => by
    simp only [hget]
    split
    · rename_i e; subst e; exact .inr h.1
    · exact nlH_get h.2 i
theorem Walk.nil2d (e' : EL) (h' : HL) (hE : nlE (eget s.e) e') (hH : nlH (hget s.h) h') (h : Walk P n nb k R ⟨e', h'⟩) : Walk P n nb k R s := by
  have hsome : ∀ i o', hget h' i = some o' → ∃ o, hget s.h i = some o := fun i o' ho' => by
    rcases nlH_get hH i with h3 | h3
    · rw [h3] at ho'; cases ho'
    · rw [ho'] at h3
      cases ho : hget s.h i with
      | none => rw [ho] at h3; simp [nlO] at h3
      | some o => exact ⟨o, rfl⟩
  refine h.ghost _ (fun A β a w hc => ?_) fun i hn hs => ?_
  · obtain ⟨g3, g4⟩ := hc.recast hc (E' := eget e') (H2 := hget h') (fun t v hv => by
        rcases nlE_get hE t with h3 | h3
        · rw [h3]; simp only [RepV]
        · exact nlV_rep h3 hv)
      (fun i cs' hi => by
        rcases nlH_get hH i with h3 | h3
        · rw [h3] at hi; cases hi
        · rw [hi] at h3
          cases ho : hget s.h i with
          | none => rw [ho] at h3; simp [nlO] at h3
          | some o =>
            rw [ho] at h3
            cases o with
            | arr _ _ _ => simp [nlO] at h3
            | box cs =>
              simp only [nlO] at h3
              exact ⟨cs, rfl, rfl, rfl, fun vs hvs => nlVs_rep h3 hvs⟩)
      (fun i T' sz' es' hi => by
        rcases nlH_get hH i with h3 | h3
        · rw [h3] at hi; cases hi
        · rw [hi] at h3
          cases ho : hget s.h i with
          | none => rw [ho] at h3; simp [nlO] at h3
          | some o =>
            rw [ho] at h3
            cases o with
            | arr _ _ _ => simpa [nlO] using h3
            | box cs => simp [nlO] at h3)
    refine ⟨A, β, g3, ⟨g4.size, g4.os, g4.tape, g4.output, g4.same, g4.mono, g4.new, g4.own, g4.keep⟩⟩
  · cases ho : hget h' i with
    | none => exact absurd ho hs
    | some o' => obtain ⟨o, h3⟩ := hsome i o' ho; rw [hn] at h3; cases h3
end

/-! ### what data are made of -/
def iD (n : Int) : List D := [.int .i64 n]
def uD (n : Int) : List D := [.int .u8 n]
def bD (b : Bool) : List D := [.bool b]
def tD (s : List UInt8) : List D := [.str s]
def lD {τ : Type} (f : τ → List D) (l : List τ) : List D := [.sl (l.map f)]
theorem ints_map (l : List Int) : ints l = l.map iD := rfl
theorem map_take' {τ : Type} (f : τ → List D) (l : List τ) (n : Nat) : (l.map f).take n = (l.take n).map f := List.map_take.symm
theorem map_drop' {τ : Type} (f : τ → List D) (l : List τ) (n : Nat) : (l.map f).drop n = (l.drop n).map f := List.map_drop.symm
theorem take_map_len {τ : Type} (f : τ → List D) (l : List τ) : (l.map f).take l.length = l.map f := by rw [← List.map_take, List.take_length]
theorem map_app' {τ : Type} (f : τ → List D) (a b : List τ) : a.map f ++ b.map f = (a ++ b).map f := List.map_append.symm
theorem head_len {τ : Type} {f : τ → List D} {l : List τ} {m : Nat} (hf : ∀ x, (f x).length = m) : (∀ e ∈ (l.map f).head?, e.length = m) = True := by
  simp only [eq_iff_iff, iff_true]
  intro e he
  cases l with
  | nil => simp at he
  | cons x r => simp at he; subst he; exact hf x
theorem all_len {τ : Type} {f : τ → List D} {l : List τ} {m : Nat} (hf : ∀ x, (f x).length = m) : (∀ e ∈ l.map f, e.length = m) = True := by
  simp only [eq_iff_iff, iff_true]
  intro e he
  obtain ⟨x, _, rfl⟩ := List.mem_map.1 he
  exact hf x
theorem nil_map {τ : Type} (f : τ → List D) : ([] : List (List D)) = ([] : List τ).map f := rfl
theorem map_bcell (l : List Int) : l.map bcell = l.map uD := rfl
theorem zv_str {l : List UInt8} (h : l.length ≤ LB) : zv (.string ⟨l.toArray⟩) = .d (.str l) := by
  unfold zv; simp [h]
theorem bytes_all (l : List Int) : (∀ e ∈ l.map uD, isByte e) = True := by
  simp only [eq_iff_iff, iff_true]
  intro e he
  obtain ⟨n, _, rfl⟩ := List.mem_map.1 he
  rfl
def strL (l : List Int) : List UInt8 := l.map fun n => UInt8.ofNat n.toNat
theorem str_map (l : List Int) : (l.map uD).map byteOf = strL l := by simp [strL, uD, byteOf]
theorem iD_len (x) : (iD x).length = 1 := rfl
theorem uD_len (x) : (uD x).length = 1 := rfl
theorem bD_len (x) : (bD x).length = 1 := rfl
theorem tD_len (x) : (tD x).length = 1 := rfl
theorem lD_len {τ : Type} (f : τ → List D) (x) : (lD f x).length = 1 := rfl
end Go.AX
namespace Go.AX
theorem ACalls.of_cellS {P : Program} {f : FuncId} {args : List AV} {h : HL} {r : AV} {h' : HL} {fn : Func} {c : Code} {n : Nat} (nb : Nat) (x t : Nat) (hf : P.funcs[f]? = some fn) (hb : fn.body = some c)
    (hn : (fn.name == "runtime.NumGoroutine") = false) (hr : fn.results = #[.cell x t]) (hnt : fn.ntmps = n) (hsz : args.length ≤ n) (hnb : ∀ i, hget h i ≠ none → i < nb)
    (hs : Walk P n nb [.code c] (fun s' => ∃ id o, eget s'.e x = .box id o ∧ (aLoad P t (.box id o) (hget s'.h)).pre ∧ (aLoad P t (.box id o) (hget s'.h)).res = r ∧ subH (hget s'.h) h') ⟨argE 0 args, h⟩) : ACalls P f args h r h' := by
  obtain ⟨r0, h0, ⟨rfl, rfl⟩, hc⟩ := ACalls.of_cell (fun a b => a = r ∧ b = h') nb x t hf hb hn hr hnt hsz hnb (hs.mono fun s' ⟨id, o, h1, h2, h3, h4⟩ => ⟨id, o, h1, h2, h', h4, h3, rfl⟩)
  exact hc
end Go.AX
set_option linter.unusedVariables false
namespace Go.AX
open Go.Proofs
theorem ti2 : mkTI Try.prog 2 = ⟨TK.int .i64, 1, 8, [AV.d (D.int .i64 0)]⟩ := by kernel_rfl
theorem ti3 : mkTI Try.prog 3 = ⟨TK.int .i64, 1, 8, [AV.d (D.int .i64 0)]⟩ := by kernel_rfl
theorem ti4 : mkTI Try.prog 4 = ⟨TK.bool, 1, 1, [AV.d (D.bool false)]⟩ := by kernel_rfl
theorem ti5 : mkTI Try.prog 5 = ⟨TK.int .u8, 1, 1, [AV.d (D.int .u8 0)]⟩ := by kernel_rfl
theorem ti6 : mkTI Try.prog 6 = ⟨TK.int .u8, 1, 1, [AV.d (D.int .u8 0)]⟩ := by kernel_rfl
theorem ti7 : mkTI Try.prog 7 = ⟨TK.struct [(0, 2), (1, 3), (2, 4), (3, 6)], 4, 24, [AV.d (D.int .i64 0), AV.d (D.int .i64 0), AV.d (D.bool false), AV.d (D.int .u8 0)]⟩ := by kernel_rfl
theorem ti8 : mkTI Try.prog 8 = ⟨TK.struct [(0, 2), (1, 3), (2, 4), (3, 6)], 4, 24, [AV.d (D.int .i64 0), AV.d (D.int .i64 0), AV.d (D.bool false), AV.d (D.int .u8 0)]⟩ := by kernel_rfl
theorem ti9 : mkTI Try.prog 9 = ⟨TK.str, 1, 16, [AV.d (D.str [])]⟩ := by kernel_rfl
theorem ti10 : mkTI Try.prog 10 = ⟨TK.str, 1, 16, [AV.d (D.str [])]⟩ := by kernel_rfl
theorem ti11 : mkTI Try.prog 11 = ⟨TK.str, 1, 16, [AV.d (D.str [])]⟩ := by kernel_rfl
theorem ti12 : mkTI Try.prog 12 = ⟨TK.int .u64, 1, 8, [AV.d (D.int .u64 0)]⟩ := by kernel_rfl
theorem ti13 : mkTI Try.prog 13 = ⟨TK.struct [(0, 9), (1, 12)], 2, 24, [AV.d (D.str []), AV.d (D.int .u64 0)]⟩ := by kernel_rfl
theorem ti14 : mkTI Try.prog 14 = ⟨TK.struct [(0, 9), (1, 12)], 2, 24, [AV.d (D.str []), AV.d (D.int .u64 0)]⟩ := by kernel_rfl
theorem ti15 : mkTI Try.prog 15 = ⟨TK.ptr 125, 1, 8, [AV.nilp]⟩ := by kernel_rfl
theorem ti16 : mkTI Try.prog 16 = ⟨TK.ptr 128, 1, 8, [AV.nilp]⟩ := by kernel_rfl
theorem ti17 : mkTI Try.prog 17 = ⟨TK.ptr 137, 1, 8, [AV.nilp]⟩ := by kernel_rfl
theorem ti18 : mkTI Try.prog 18 = ⟨TK.struct [(0, 17)], 1, 8, [AV.nilp]⟩ := by kernel_rfl
theorem ti19 : mkTI Try.prog 19 = ⟨TK.struct [(0, 17)], 1, 8, [AV.nilp]⟩ := by kernel_rfl
theorem ti21 : mkTI Try.prog 21 = ⟨TK.int .i32, 1, 4, [AV.d (D.int .i32 0)]⟩ := by kernel_rfl
theorem ti22 : mkTI Try.prog 22 = ⟨TK.slice 3, 1, 24, [AV.nils]⟩ := by kernel_rfl
theorem ti23 : mkTI Try.prog 23 = ⟨TK.ptr 72, 1, 8, [AV.nilp]⟩ := by kernel_rfl
theorem ti25 : mkTI Try.prog 25 = ⟨TK.slice 32, 1, 24, [AV.nils]⟩ := by kernel_rfl
theorem ti26 : mkTI Try.prog 26 = ⟨TK.struct [(0, 22), (1, 25)], 2, 48, [AV.nils, AV.nils]⟩ := by kernel_rfl
theorem ti27 : mkTI Try.prog 27 = ⟨TK.struct [(0, 22), (1, 25)], 2, 48, [AV.nils, AV.nils]⟩ := by kernel_rfl
theorem ti31 : mkTI Try.prog 31 = ⟨TK.struct [(0, 22), (1, 3), (2, 3)], 3, 40, [AV.nils, AV.d (D.int .i64 0), AV.d (D.int .i64 0)]⟩ := by kernel_rfl
theorem ti32 : mkTI Try.prog 32 = ⟨TK.struct [(0, 22), (1, 3), (2, 3)], 3, 40, [AV.nils, AV.d (D.int .i64 0), AV.d (D.int .i64 0)]⟩ := by kernel_rfl
theorem ti41 : mkTI Try.prog 41 = ⟨TK.int .u64, 1, 8, [AV.d (D.int .u64 0)]⟩ := by kernel_rfl
theorem ti51 : mkTI Try.prog 51 = ⟨TK.slice 80, 1, 24, [AV.nils]⟩ := by kernel_rfl
theorem ti52 : mkTI Try.prog 52 = ⟨TK.slice 83, 1, 24, [AV.nils]⟩ := by kernel_rfl
theorem ti53 : mkTI Try.prog 53 = ⟨TK.struct [(0, 3), (1, 3), (2, 3), (3, 3), (4, 51), (5, 51), (6, 22), (7, 52), (8, 3)], 9, 136, [AV.d (D.int .i64 0), AV.d (D.int .i64 0), AV.d (D.int .i64 0), AV.d (D.int .i64 0), AV.nils, AV.nils, AV.nils, AV.nils, AV.d (D.int .i64 0)]⟩ := by kernel_rfl
theorem ti54 : mkTI Try.prog 54 = ⟨TK.struct [(0, 3), (1, 3), (2, 3), (3, 3), (4, 51), (5, 51), (6, 22), (7, 52), (8, 3)], 9, 136, [AV.d (D.int .i64 0), AV.d (D.int .i64 0), AV.d (D.int .i64 0), AV.d (D.int .i64 0), AV.nils, AV.nils, AV.nils, AV.nils, AV.d (D.int .i64 0)]⟩ := by kernel_rfl
theorem ti56 : mkTI Try.prog 56 = ⟨TK.int .i64, 1, 8, [AV.d (D.int .i64 0)]⟩ := by kernel_rfl
theorem ti58 : mkTI Try.prog 58 = ⟨TK.slice 62, 1, 24, [AV.nils]⟩ := by kernel_rfl
theorem ti60 : mkTI Try.prog 60 = ⟨TK.slice 68, 1, 24, [AV.nils]⟩ := by kernel_rfl
theorem ti61 : mkTI Try.prog 61 = ⟨TK.struct [(0, 3), (1, 3), (2, 9), (3, 60), (4, 22)], 5, 80, [AV.d (D.int .i64 0), AV.d (D.int .i64 0), AV.d (D.str []), AV.nils, AV.nils]⟩ := by kernel_rfl
theorem ti62 : mkTI Try.prog 62 = ⟨TK.struct [(0, 3), (1, 3), (2, 9), (3, 60), (4, 22)], 5, 80, [AV.d (D.int .i64 0), AV.d (D.int .i64 0), AV.d (D.str []), AV.nils, AV.nils]⟩ := by kernel_rfl
theorem ti67 : mkTI Try.prog 67 = ⟨TK.struct [(0, 3), (1, 3), (2, 3), (3, 3), (4, 3), (5, 3)], 6, 48, [AV.d (D.int .i64 0), AV.d (D.int .i64 0), AV.d (D.int .i64 0), AV.d (D.int .i64 0), AV.d (D.int .i64 0), AV.d (D.int .i64 0)]⟩ := by kernel_rfl
theorem ti68 : mkTI Try.prog 68 = ⟨TK.struct [(0, 3), (1, 3), (2, 3), (3, 3), (4, 3), (5, 3)], 6, 48, [AV.d (D.int .i64 0), AV.d (D.int .i64 0), AV.d (D.int .i64 0), AV.d (D.int .i64 0), AV.d (D.int .i64 0), AV.d (D.int .i64 0)]⟩ := by kernel_rfl
theorem ti71 : mkTI Try.prog 71 = ⟨TK.struct [(0, 22), (1, 3)], 2, 32, [AV.nils, AV.d (D.int .i64 0)]⟩ := by kernel_rfl
theorem ti72 : mkTI Try.prog 72 = ⟨TK.struct [(0, 22), (1, 3)], 2, 32, [AV.nils, AV.d (D.int .i64 0)]⟩ := by kernel_rfl
theorem ti79 : mkTI Try.prog 79 = ⟨TK.struct [(0, 3), (1, 3), (2, 3)], 3, 24, [AV.d (D.int .i64 0), AV.d (D.int .i64 0), AV.d (D.int .i64 0)]⟩ := by kernel_rfl
theorem ti80 : mkTI Try.prog 80 = ⟨TK.struct [(0, 3), (1, 3), (2, 3)], 3, 24, [AV.d (D.int .i64 0), AV.d (D.int .i64 0), AV.d (D.int .i64 0)]⟩ := by kernel_rfl
theorem ti81 : mkTI Try.prog 81 = ⟨TK.slice 85, 1, 24, [AV.nils]⟩ := by kernel_rfl
theorem ti82 : mkTI Try.prog 82 = ⟨TK.struct [(0, 3), (1, 81)], 2, 32, [AV.d (D.int .i64 0), AV.nils]⟩ := by kernel_rfl
theorem ti83 : mkTI Try.prog 83 = ⟨TK.struct [(0, 3), (1, 81)], 2, 32, [AV.d (D.int .i64 0), AV.nils]⟩ := by kernel_rfl
theorem ti84 : mkTI Try.prog 84 = ⟨TK.struct [(0, 3), (1, 3)], 2, 16, [AV.d (D.int .i64 0), AV.d (D.int .i64 0)]⟩ := by kernel_rfl
theorem ti85 : mkTI Try.prog 85 = ⟨TK.struct [(0, 3), (1, 3)], 2, 16, [AV.d (D.int .i64 0), AV.d (D.int .i64 0)]⟩ := by kernel_rfl
theorem ti89 : mkTI Try.prog 89 = ⟨TK.slice 9, 1, 24, [AV.nils]⟩ := by kernel_rfl
theorem ti93 : mkTI Try.prog 93 = ⟨TK.ptr 95, 1, 8, [AV.nilp]⟩ := by kernel_rfl
theorem ti94 : mkTI Try.prog 94 = ⟨TK.struct [(0, 58), (1, 25)], 2, 48, [AV.nils, AV.nils]⟩ := by kernel_rfl
theorem ti95 : mkTI Try.prog 95 = ⟨TK.struct [(0, 58), (1, 25)], 2, 48, [AV.nils, AV.nils]⟩ := by kernel_rfl
theorem ti110 : mkTI Try.prog 110 = ⟨TK.slice 5, 1, 24, [AV.nils]⟩ := by kernel_rfl
theorem ti124 : mkTI Try.prog 124 = ⟨TK.struct [(0, 17), (1, 17), (2, 17), (3, 9)], 4, 40, [AV.nilp, AV.nilp, AV.nilp, AV.d (D.str [])]⟩ := by kernel_rfl
theorem ti125 : mkTI Try.prog 125 = ⟨TK.struct [(0, 17), (1, 17), (2, 17), (3, 9)], 4, 40, [AV.nilp, AV.nilp, AV.nilp, AV.d (D.str [])]⟩ := by kernel_rfl
theorem ti126 : mkTI Try.prog 126 = ⟨TK.array 0 16, 0, 0, []⟩ := by kernel_rfl
theorem ti127 : mkTI Try.prog 127 = ⟨TK.struct [(0, 126)], 0, 0, []⟩ := by kernel_rfl
theorem ti128 : mkTI Try.prog 128 = ⟨TK.struct [(0, 126)], 0, 0, []⟩ := by kernel_rfl
theorem ti129 : mkTI Try.prog 129 = ⟨TK.int .u32, 1, 4, [AV.d (D.int .u32 0)]⟩ := by kernel_rfl
theorem ti130 : mkTI Try.prog 130 = ⟨TK.int .u8, 1, 1, [AV.d (D.int .u8 0)]⟩ := by kernel_rfl
theorem ti131 : mkTI Try.prog 131 = ⟨TK.int .u8, 1, 1, [AV.d (D.int .u8 0)]⟩ := by kernel_rfl
theorem ti133 : mkTI Try.prog 133 = ⟨TK.ptr 5, 1, 8, [AV.nilp]⟩ := by kernel_rfl
theorem ti134 : mkTI Try.prog 134 = ⟨TK.int .i32, 1, 4, [AV.d (D.int .i32 0)]⟩ := by kernel_rfl
theorem ti135 : mkTI Try.prog 135 = ⟨TK.int .i32, 1, 4, [AV.d (D.int .i32 0)]⟩ := by kernel_rfl
theorem ti136 : mkTI Try.prog 136 = ⟨TK.struct [(0, 12), (1, 12), (2, 129), (3, 130), (4, 5), (5, 5), (6, 131), (7, 132), (8, 133), (9, 134), (10, 135)], 11, 48, [AV.d (D.int .u64 0), AV.d (D.int .u64 0), AV.d (D.int .u32 0), AV.d (D.int .u8 0), AV.d (D.int .u8 0), AV.d (D.int .u8 0), AV.d (D.int .u8 0), AV.any, AV.nilp, AV.d (D.int .i32 0), AV.d (D.int .i32 0)]⟩ := by kernel_rfl
theorem ti137 : mkTI Try.prog 137 = ⟨TK.struct [(0, 12), (1, 12), (2, 129), (3, 130), (4, 5), (5, 5), (6, 131), (7, 132), (8, 133), (9, 134), (10, 135)], 11, 48, [AV.d (D.int .u64 0), AV.d (D.int .u64 0), AV.d (D.int .u32 0), AV.d (D.int .u8 0), AV.d (D.int .u8 0), AV.d (D.int .u8 0), AV.d (D.int .u8 0), AV.any, AV.nilp, AV.d (D.int .i32 0), AV.d (D.int .i32 0)]⟩ := by kernel_rfl
end Go.AX
set_option linter.unusedVariables false
set_option linter.unusedSimpArgs false
set_option maxRecDepth 20000
set_option maxHeartbeats 4000000
namespace Go.AX
open Go.Proofs
theorem mixed : Try.prog.follows .mixedOrders = true := by kernel_rfl
structure Row where
  Coefs : List Int
  Least : Int
  Most : Int
  deriving DecidableEq, Inhabited
def Row.D (x : Row) : List D := [.sl (List.map iD x.Coefs), .int .i64 x.Least, .int .i64 x.Most]
theorem Row.D_len (x : Row) : x.D.length = 3 := rfl
structure TRange where
  Index : Int
  Least : Int
  Most : Int
  deriving DecidableEq, Inhabited
def TRange.D (x : TRange) : List D := [.int .i64 x.Index, .int .i64 x.Least, .int .i64 x.Most]
theorem TRange.D_len (x : TRange) : x.D.length = 3 := rfl
structure Ref where
  ID : Int
  Version : Int
  deriving DecidableEq, Inhabited
def Ref.D (x : Ref) : List D := [.int .i64 x.ID, .int .i64 x.Version]
theorem Ref.D_len (x : Ref) : x.D.length = 2 := rfl
structure Form where
  Code : Int
  Items : List Ref
  deriving DecidableEq, Inhabited
def Form.D (x : Form) : List D := [.int .i64 x.Code, .sl (List.map Ref.D x.Items)]
theorem Form.D_len (x : Form) : x.D.length = 2 := rfl
structure Part where
  Kind : Int
  Max : Int
  Topic : Int
  Objective : Int
  Options : Int
  Key : Int
  deriving DecidableEq, Inhabited
def Part.D (x : Part) : List D := [.int .i64 x.Kind, .int .i64 x.Max, .int .i64 x.Topic, .int .i64 x.Objective, .int .i64 x.Options, .int .i64 x.Key]
theorem Part.D_len (x : Part) : x.D.length = 6 := rfl
structure TItem where
  ID : Int
  Version : Int
  Stem : List UInt8
  Parts : List Part
  Enemies : List Int
  deriving DecidableEq, Inhabited
def TItem.D (x : TItem) : List D := [.int .i64 x.ID, .int .i64 x.Version, .str x.Stem, .sl (List.map Part.D x.Parts), .sl (List.map iD x.Enemies)]
theorem TItem.D_len (x : TItem) : x.D.length = 5 := rfl
theorem zs_ : zv (Value.string { data := #[] }) = .d (.str []) := by rw [zv_str (by simp [LB])]
theorem zs_48_49_50_51_52_53_54_55_56_57_48_49_50_51_52_53_54_55_56_57_48_49_50_51_52_53_54_55_56_57_48_49_50_51_52_53_54_55_56_57_120 : zv (Value.string { data := #[48, 49, 50, 51, 52, 53, 54, 55, 56, 57, 48, 49, 50, 51, 52, 53, 54, 55, 56, 57, 48, 49, 50, 51, 52, 53, 54, 55, 56, 57, 48, 49, 50, 51, 52, 53, 54, 55, 56, 57, 120] }) = .d (.str [48, 49, 50, 51, 52, 53, 54, 55, 56, 57, 48, 49, 50, 51, 52, 53, 54, 55, 56, 57, 48, 49, 50, 51, 52, 53, 54, 55, 56, 57, 48, 49, 50, 51, 52, 53, 54, 55, 56, 57, 120]) := by rw [zv_str (by simp [LB])]
theorem zs_113 : zv (Value.string { data := #[113] }) = .d (.str [113]) := by rw [zv_str (by simp [LB])]
theorem zs_116_97_98_9 : zv (Value.string { data := #[116, 97, 98, 9] }) = .d (.str [116, 97, 98, 9]) := by rw [zv_str (by simp [LB])]
theorem eqf85_00 : eqFlat Try.prog 85 [0, 0] = true := by kernel_rfl

end Go.AX
