import Derived.Test.YtebcedhhcpibpaaA2
import Derived.Test.YtebcedhhcpibpaaProg
import Derived.KernelRfl
set_option linter.unusedVariables false
set_option linter.unusedSimpArgs false
set_option linter.unusedSectionVars false
namespace Go.AX

section
variable {σ ρ τ : Type}
def chk (p : Prop) [Decidable p] (k : Option ρ) : Option ρ := if p then k else none
def rd (l : List τ) (i : Int) : Option τ := if 0 ≤ i then l[i.toNat]? else none
def contO (s : σ) : Option (σ ⊕ ρ) := some (.inl s)
def exitO (r : Option ρ) : Option (σ ⊕ ρ) := r.map .inr
/-- Rounds of a loop. -/
def iterN (f : σ → Option (σ ⊕ ρ)) : Nat → σ → Option ρ
  | 0, _ => none
  | k + 1, s => match f s with
    | none => none
    | some (.inl s') => iterN f k s'
    | some (.inr r) => some r
open Classical in
noncomputable def iter (f : σ → Option (σ ⊕ ρ)) (s : σ) : Option ρ := if h : ∃ k, (iterN f k s).isSome then iterN f h.choose s else none

theorem iterN_det {f : σ → Option (σ ⊕ ρ)} : ∀ {k m : Nat} {s : σ} {r r' : ρ}, iterN f k s = some r → iterN f m s = some r' → r = r'
  | 0, _, _, _, _, h, _ => by simp [iterN] at h
  | _ + 1, 0, _, _, _, _, h => by simp [iterN] at h
  | k + 1, m + 1, s, r, r', h, h' => by
    simp only [iterN] at h h'
    cases hf : f s with
    | none => simp [hf] at h
    | some x =>
      cases x with
      | inl s' => simp only [hf] at h h'; exact iterN_det h h'
      | inr y => simp only [hf] at h h'; cases h; cases h'; rfl
theorem iter_iff {f : σ → Option (σ ⊕ ρ)} {s : σ} {r : ρ} : iter f s = some r ↔ ∃ k, iterN f k s = some r := by
  unfold iter
  constructor
  · intro h
    split at h
    · exact ⟨_, h⟩
    · cases h
  · rintro ⟨k, hk⟩
    have h : ∃ k, (iterN f k s).isSome := ⟨k, by simp [hk]⟩
    rw [dif_pos h]
    obtain ⟨r', hr'⟩ := Option.isSome_iff_exists.1 h.choose_spec
    rw [hr', iterN_det hr' hk]
theorem iter_cont {f : σ → Option (σ ⊕ ρ)} {s s' : σ} (h : f s = contO s') : iter f s = iter f s' := by
  apply Option.ext
  intro r
  rw [iter_iff, iter_iff]
  constructor
  · rintro ⟨k, hk⟩
    cases k with
    | zero => simp [iterN] at hk
    | succ k => simp only [iterN, h, contO] at hk; exact ⟨k, hk⟩
  · rintro ⟨k, hk⟩
    exact ⟨k + 1, by simp only [iterN, h, contO]; exact hk⟩
theorem iter_exit {f : σ → Option (σ ⊕ ρ)} {s : σ} {x : Option ρ} (h : f s = exitO x) : iter f s = x := by
  apply Option.ext
  intro r
  rw [iter_iff]
  constructor
  · rintro ⟨k, hk⟩
    cases k with
    | zero => simp [iterN] at hk
    | succ k =>
      simp only [iterN, h, exitO] at hk
      cases x with
      | none => simp at hk
      | some y => simpa using hk
  · rintro rfl
    exact ⟨1, by simp [iterN, h, exitO]⟩
theorem iter_none {f : σ → Option (σ ⊕ ρ)} {s : σ} (h : f s = none) : iter f s = none := by
  rw [Option.eq_none_iff_forall_ne_some]
  intro r hr
  obtain ⟨k, hk⟩ := iter_iff.1 hr
  cases k <;> simp [iterN, h] at hk
theorem iter_rec {f : σ → Option (σ ⊕ ρ)} {r : ρ} {W : σ → Prop} (step : ∀ s y, f s = some y → (∀ s', y = .inl s' → W s') → (∀ z, y = .inr z → z = r) → W s) :
    ∀ s, iter f s = some r → W s := by
  intro s h
  obtain ⟨k, hk⟩ := iter_iff.1 h
  clear h
  induction k generalizing s with
  | zero => simp [iterN] at hk
  | succ k ih =>
    simp only [iterN] at hk
    cases hf : f s with
    | none => simp [hf] at hk
    | some y =>
      refine step s y hf (fun s' e => ?_) (fun z e => ?_)
      · subst e; simp only [hf] at hk; exact ih s' hk
      · subst e; simp only [hf] at hk; cases hk; rfl

theorem chk_elim {p : Prop} [Decidable p] {k : Option ρ} {x : ρ} (h : chk p k = some x) : p ∧ k = some x := by
  unfold chk at h
  split at h
  · exact ⟨‹_›, h⟩
  · cases h
theorem bind_elim {a : Option τ} {K : τ → Option ρ} {x : ρ} (h : a.bind K = some x) : ∃ y, a = some y ∧ K y = some x := by
  cases a with
  | none => cases h
  | some y => exact ⟨y, rfl, h⟩
theorem rd_some {l : List τ} {i : Int} {y : τ} (h : rd l i = some y) : 0 ≤ i ∧ i < l.length ∧ l[i.toNat]? = some y := by
  unfold rd at h
  split at h
  · refine ⟨‹_›, ?_, h⟩
    obtain ⟨h1, _⟩ := List.getElem?_eq_some_iff.1 h
    omega
  · cases h
theorem rd_elim {l : List τ} {i : Int} {K : τ → Option ρ} {x : ρ} (h : (rd l i).bind K = some x) :
    ∃ y, rd l i = some y ∧ 0 ≤ i ∧ i < l.length ∧ (∀ (f : τ → List D) (j : Nat), j = i.toNat → (l.map f).getD j [] = f y) ∧ K y = some x := by
  obtain ⟨y, hy, hx⟩ := bind_elim h
  obtain ⟨h1, h2, h3⟩ := rd_some hy
  refine ⟨y, hy, h1, h2, fun f j hj => ?_, hx⟩
  subst hj
  simp [List.getD_eq_getElem?_getD, h3]
theorem exit_elim {r : Option ρ} {y : σ ⊕ ρ} (h : exitO r = some y) : ∃ z, y = .inr z ∧ r = some z := by
  unfold exitO at h
  cases r with
  | none => cases h
  | some z => simp at h; exact ⟨z, h.symm, rfl⟩
theorem cont_elim {s : σ} {y : σ ⊕ ρ} (h : contO s = some y) : y = .inl s := by
  unfold contO at h
  cases h; rfl
end

section
variable {P : Program} {n nb : Nat} {R : St → Prop} {s : St} {k : List Item} {σ ρ : Type}
theorem Walk.iter {c : Code} (S : σ → St) (f : σ → Option (σ ⊕ ρ)) (r : ρ)
    (step : ∀ g y, f g = some y → (∀ g', y = .inl g' → Walk P n nb (.inLoop c :: k) R (S g')) → (∀ z, y = .inr z → z = r) → Walk P n nb (.code c :: .inLoop c :: k) R (S g)) :
    ∀ g, AX.iter f g = some r → Walk P n nb (.inLoop c :: k) R (S g) :=
  iter_rec (W := fun g => Walk P n nb (.inLoop c :: k) R (S g)) fun g y h1 h2 h3 => .inLoop (step g y h1 h2 h3)
theorem Walk.condT {c : Operand} {x y : Code} (hc : evalA (eget s.e) c = .d (.bool true)) (h : Walk P n nb (.code x :: k) R s) : Walk P n nb (.code (.cond c x y) :: k) R s :=
  .cond hc (fun _ => h) (fun h => by cases h)
theorem Walk.condF {c : Operand} {x y : Code} (hc : evalA (eget s.e) c = .d (.bool false)) (h : Walk P n nb (.code y :: k) R s) : Walk P n nb (.code (.cond c x y) :: k) R s :=
  .cond hc (fun h => by cases h) (fun _ => h)
theorem Walk.condO {c : Operand} {a b : Code} {t : Bool} {A B : Option ρ} {x : ρ} (hc : evalA (eget s.e) c = .d (.bool t)) (hx : (bif t then A else B) = some x)
    (ht : t = true → A = some x → Walk P n nb (.code a :: k) R s) (hf : t = false → B = some x → Walk P n nb (.code b :: k) R s) : Walk P n nb (.code (.cond c a b) :: k) R s :=
  .cond hc (fun h => ht h (by subst h; exact hx)) (fun h => hf h (by subst h; exact hx))
theorem VGdO {full : List Oper} {o : Oper} {w : Bool} {r : List Oper} {lg : Log} {K : Log → St → Prop} {t : Bool} {A B : Option ρ} {x : ρ} (hx : (bif t then A else B) = some x)
    (ht : t = true → A = some x → VGd P n nb full o w r s lg K (.d (.bool true))) (hf : t = false → B = some x → VGd P n nb full o w r s lg K (.d (.bool false))) :
    VGd P n nb full o w r s lg K (.d (.bool t)) :=
  VGd_cases (fun h => ht h (by subst h; exact hx)) (fun h => hf h (by subst h; exact hx))
/-- Ways that come together. -/
theorem Walk.join {c : Code} {G : Type} (S : G → St) (J : G → Option ρ) {x : ρ} {E : Option ρ} (_ : E = some x) (h1 : ∀ g, J g = some x → Walk P n nb k R (S g))
    (h2 : (∀ g, J g = some x → Walk P n nb k R (S g)) → Walk P n nb (.code c :: k) R s) : Walk P n nb (.code c :: k) R s := h2 h1

theorem CfgF.rename {A β E H a w} (h : CfgF n A β E H a w) {id nm : Nat} (hn : Fresh nm E H) :
    CfgF n A (fun i => β (swp id nm i)) (fun t => (E t).ren (swp id nm)) (renH (swp id nm) H) a w ∧ Trans w A β H w A (fun i => β (swp id nm i)) (renH (swp id nm) H) := by
  have hπ := swp_swp id nm
  refine ⟨⟨h.size, h.defers, fun t => (RepV.ren hπ (E t) _).2 (h.env t), (HRel.ren hπ).2 h.heap⟩, Nat.le_refl _, rfl, rfl, rfl, fun _ _ _ => rfl, fun _ h => h, fun _ h => .inl h, fun i b hi hb => .inr ⟨swp id nm i, (renH_none hπ).1 hi, hb⟩, fun i o o' ho ho' => ?_⟩
  simp only [renH, Option.map_eq_some_iff] at ho'
  obtain ⟨o1, h1, rfl⟩ := ho'
  by_cases e1 : i = id
  · subst e1
    by_cases e2 : i = nm
    · subst e2
      simp only [swp, if_true] at h1
      rw [ho] at h1; cases h1
      cases o with
      | pre _ => exact ⟨by simp [swp], fun _ _ => rfl⟩
      | box cs => exact ⟨by simp [swp], fun _ _ => rfl⟩
      | arr T sz es => exact ⟨rfl, rfl, Nat.le_refl _, fun _ => ⟨by simp [swp], fun _ _ => rfl⟩⟩
    · simp only [swp, if_true] at h1
      rw [hn.1] at h1; cases h1
  · by_cases e2 : i = nm
    · subst e2; rw [hn.1] at ho; cases ho
    · simp only [swp, e1, e2, if_false] at h1
      rw [ho] at h1; cases h1
      cases o with
      | pre _ => exact ⟨by simp [swp, e1, e2], fun _ _ => rfl⟩
      | box cs => exact ⟨by simp [swp, e1, e2], fun _ _ => rfl⟩
      | arr T sz es => exact ⟨rfl, rfl, Nat.le_refl _, fun _ => ⟨by simp [swp, e1, e2], fun _ _ => rfl⟩⟩
def renE (π : Nat → Nat) : EL → EL
  | [] => []
  | (t, x) :: r => (t, x.ren π) :: renE π r
theorem eget_renE (π : Nat → Nat) : ∀ (e : EL) (t : Nat), eget (renE π e) t = (eget e t).ren π
  | [], t => by simp [renE, eget, AV.ren]
  | (j, x) :: r, t => by
    simp only [renE, eget]
    split
    · rfl
    · exact eget_renE π r t
theorem Walk.rename (id nm : Nat) (hnb : nb ≤ nm) (hid : nb ≤ id) (f1 : freshE nm s.e) (f2 : freshH nm s.h) (h : Walk P n nb k R ⟨renE (swp id nm) s.e, renL (swp id nm) s.h⟩) : Walk P n nb k R s := by
  have hfr : Fresh nm (eget s.e) (hget s.h) := fresh_of f1 f2
  refine h.ghost _ (fun A β a w hc => ?_) fun i hn hs => ?_
  · obtain ⟨g1, g2⟩ := hc.rename (id := id) hfr
    rw [hget_renL (swp_swp id nm)]
    have e : (fun t => (eget s.e t).ren (swp id nm)) = eget (renE (swp id nm) s.e) := by funext t; rw [eget_renE]
    rw [e] at g1
    exact ⟨A, _, g1, g2⟩
  · rw [hget_renL (swp_swp id nm)] at hs
    rw [renH_none (swp_swp id nm)] at hs
    by_cases e1 : i = id
    · omega
    · by_cases e2 : i = nm
      · omega
      · simp only [swp, e1, e2, if_false] at hs; exact absurd hn hs

def nlV (x x' : AV) : Prop := x = x' ∨ (x = .nils ∧ x' = .d (.sl []))
def nlVs : List AV → List AV → Prop
  | [], [] => True
  | x :: r, x' :: r' => nlV x x' ∧ nlVs r r'
  | _, _ => False
def nlE (E : EF) : EL → Prop
  | [] => True
  | (t, x) :: r => nlV (E t) x ∧ nlE E r
def nlO : Option AObj → Option AObj → Prop
  | some (.box cs), some (.box cs') => nlVs cs cs'
  | o, o' => o = o'
def nlH (H : HF) : HL → Prop
  | [] => True
  | (i, o) :: r => nlO (H i) o ∧ nlH H r
theorem nlV_refl (x : AV) : nlV x x = True := by simp [nlV]
theorem nlV_nil : nlV .nils (.d (.sl [])) = True := by simp [nlV]
theorem nlVs_refl : ∀ cs : List AV, nlVs cs cs
  | [] => trivial
  | x :: r => ⟨.inl rfl, nlVs_refl r⟩
theorem nlO_refl (o : Option AObj) : nlO o o = True := by
  cases o with
  | none => simp [nlO]
  | some o => cases o with
    | box cs => simp [nlO, nlVs_refl]
    | arr _ _ _ => simp [nlO]
    | pre _ => simp [nlO]
theorem nlO_box (cs cs' : List AV) : nlO (some (.box cs)) (some (.box cs')) = nlVs cs cs' := rfl
theorem nlV_rep {w A β H} {x x' : AV} (h : nlV x x') {v} (hv : RepV w A β H x v) : RepV w A β H x' v := by
  rcases h with rfl | ⟨rfl, rfl⟩
  · exact hv
  · simp only [RepV] at hv
    obtain ⟨a, rfl⟩ := hv
    simp only [RepV, RepD]
    exact ⟨a, 0, by simp, by simp, trivial, by simp⟩
theorem nlVs_rep {w A β H} : ∀ {x x' : List AV}, nlVs x x' → ∀ {v}, RepVs w A β H x v → RepVs w A β H x' v
  | [], [], _, v, hv => hv
  | x :: r, x' :: r', h, v, hv => by
    simp only [RepVs] at hv ⊢
    obtain ⟨v, t, rfl, h1, h2⟩ := hv
    exact ⟨v, t, rfl, nlV_rep h.1 h1, nlVs_rep h.2 h2⟩
  | [], _ :: _, h, _, _ => by simp only [nlVs] at h
  | _ :: _, [], h, _, _ => by simp only [nlVs] at h
theorem nlE_get {E} : ∀ {e : EL}, nlE E e → ∀ t, eget e t = .any ∨ nlV (E t) (eget e t)
  | [], _, t => .inl rfl
  | (j, x) :: r, h, t => by
    simp only [eget]
    split
    · rename_i e; subst e; exact .inr h.1
    · exact nlE_get h.2 t
theorem nlH_get {H} : ∀ {h : HL}, nlH H h → ∀ i, hget h i = none ∨ nlO (H i) (hget h i)
  | [], _, i => .inl rfl
  | (j, x) :: r, h, i => by
    simp only [hget]
    split
    · rename_i e; subst e; exact .inr h.1
    · exact nlH_get h.2 i
theorem Walk.nil2d (e' : EL) (h' : HL) (hE : nlE (eget s.e) e') (hH : nlH (hget s.h) h') (h : Walk P n nb k R ⟨e', h'⟩) : Walk P n nb k R s := by
  have hsome : ∀ i o', hget h' i = some o' → ∃ o, hget s.h i = some o := fun i o' ho' => by
    rcases nlH_get hH i with h3 | h3
    · rw [h3] at ho'; cases ho'
    · rw [ho'] at h3
      cases ho : hget s.h i with
      | none => rw [ho] at h3; simp [nlO] at h3
      | some o => exact ⟨o, rfl⟩
  refine h.ghost _ (fun A β a w hc => ?_) fun i hn hs => ?_
  · obtain ⟨g3, g4⟩ := hc.recast hc (E' := eget e') (H2 := hget h') (fun t v hv => by
        rcases nlE_get hE t with h3 | h3
        · rw [h3]; simp only [RepV]
        · exact nlV_rep h3 hv)
      (fun i cs' hi => by
        rcases nlH_get hH i with h3 | h3
        · rw [h3] at hi; cases hi
        · rw [hi] at h3
          cases ho : hget s.h i with
          | none => rw [ho] at h3; simp [nlO] at h3
          | some o =>
            rw [ho] at h3
            cases o with
            | arr _ _ _ => simp [nlO] at h3
            | pre _ => simp [nlO] at h3
            | box cs =>
              simp only [nlO] at h3
              exact ⟨cs, rfl, rfl, rfl, fun vs hvs => nlVs_rep h3 hvs⟩)
      (fun i T' sz' es' hi => by
        rcases nlH_get hH i with h3 | h3
        · rw [h3] at hi; cases hi
        · rw [hi] at h3
          cases ho : hget s.h i with
          | none => rw [ho] at h3; simp [nlO] at h3
          | some o =>
            rw [ho] at h3
            cases o with
            | arr _ _ _ => simpa [nlO] using h3
            | pre _ => simp [nlO] at h3
            | box cs => simp [nlO] at h3)
      (fun i ds hi => by
        rcases nlH_get hH i with h3 | h3
        · rw [h3] at hi; cases hi
        · rw [hi] at h3
          cases ho : hget s.h i with
          | none => rw [ho] at h3; simp [nlO] at h3
          | some o =>
            rw [ho] at h3
            cases o with
            | arr _ _ _ => simp [nlO] at h3
            | pre _ => simpa [nlO] using h3
            | box cs => simp [nlO] at h3)
    refine ⟨A, β, g3, ⟨g4.size, g4.os, g4.tape, g4.output, g4.same, g4.mono, g4.new, g4.own, g4.keep⟩⟩
  · cases ho : hget h' i with
    | none => exact absurd ho hs
    | some o' => obtain ⟨o, h3⟩ := hsome i o' ho; rw [hn] at h3; cases h3
end

def iD (n : Int) : List D := [.int .i64 n]
def uD (n : Int) : List D := [.int .u8 n]
def bD (b : Bool) : List D := [.bool b]
def tD (s : List UInt8) : List D := [.str s]
def lD {τ : Type} (f : τ → List D) (l : List τ) : List D := [.sl (l.map f)]
theorem map_take' {τ : Type} (f : τ → List D) (l : List τ) (n : Nat) : (l.map f).take n = (l.take n).map f := List.map_take.symm
theorem map_drop' {τ : Type} (f : τ → List D) (l : List τ) (n : Nat) : (l.map f).drop n = (l.drop n).map f := List.map_drop.symm
theorem take_map_len {τ : Type} (f : τ → List D) (l : List τ) : (l.map f).take l.length = l.map f := by rw [← List.map_take, List.take_length]
theorem head_len {τ : Type} {f : τ → List D} {l : List τ} {m : Nat} (hf : ∀ x, (f x).length = m) : (∀ e ∈ (l.map f).head?, e.length = m) = True := by
  simp only [eq_iff_iff, iff_true]
  intro e he
  cases l with
  | nil => simp at he
  | cons x r => simp at he; subst he; exact hf x
theorem all_len {τ : Type} {f : τ → List D} {l : List τ} {m : Nat} (hf : ∀ x, (f x).length = m) : (∀ e ∈ l.map f, e.length = m) = True := by
  simp only [eq_iff_iff, iff_true]
  intro e he
  obtain ⟨x, _, rfl⟩ := List.mem_map.1 he
  exact hf x
theorem map_bcell (l : List Int) : l.map bcell = l.map uD := rfl
theorem zv_str {l : List UInt8} (h : l.length ≤ LB) : zv (.string ⟨l.toArray⟩) = .d (.str l) := by
  unfold zv; simp [h]
theorem bytes_all (l : List Int) : (∀ e ∈ l.map uD, isByte e) = True := by
  simp only [eq_iff_iff, iff_true]
  intro e he
  obtain ⟨n, _, rfl⟩ := List.mem_map.1 he
  rfl
def strL (l : List Int) : List UInt8 := l.map fun n => UInt8.ofNat n.toNat
theorem str_map (l : List Int) : (l.map uD).map byteOf = strL l := by simp [strL, uD, byteOf]
theorem iD_len (x) : (iD x).length = 1 := rfl
theorem uD_len (x) : (uD x).length = 1 := rfl
theorem bD_len (x) : (bD x).length = 1 := rfl
theorem tD_len (x) : (tD x).length = 1 := rfl
theorem lD_len {τ : Type} (f : τ → List D) (x) : (lD f x).length = 1 := rfl
end Go.AX
namespace Go.AX
theorem ACalls.of_cellS {P : Program} {f : FuncId} {args : List AV} {h : HL} {r : AV} {h' : HL} {fn : Func} {c : Code} {n : Nat} (nb : Nat) (x t : Nat) (hf : P.funcs[f]? = some fn) (hb : fn.body = some c)
    (hn : (fn.name == "runtime.NumGoroutine") = false) (hr : fn.results = #[.cell x t]) (hnt : fn.ntmps = n) (hsz : args.length ≤ n) (hnb : ∀ i, hget h i ≠ none → i < nb)
    (hs : Walk P n nb [.code c] (fun s' => ∃ id o, eget s'.e x = .box id o ∧ (aLoad P t (.box id o) (hget s'.h)).pre ∧ (aLoad P t (.box id o) (hget s'.h)).res = r ∧ subH (hget s'.h) h') ⟨argE 0 args, h⟩) : ACalls P f args h r h' := by
  obtain ⟨r0, h0, ⟨rfl, rfl⟩, hc⟩ := ACalls.of_cell (fun a b => a = r ∧ b = h') nb x t hf hb hn hr hnt hsz hnb (hs.mono fun s' ⟨id, o, h1, h2, h3, h4⟩ => ⟨id, o, h1, h2, h', h4, h3, rfl⟩)
  exact hc
end Go.AX
set_option linter.unusedVariables false
set_option linter.unusedSimpArgs false
namespace Go.AX
/-- Two results, of which the first lies in a variable in memory. -/
theorem ACalls.of_cell2S {P : Program} {f : FuncId} {args : List AV} {h : HL} {r : AV} {h' : HL} {fn : Func} {c : Code} {n : Nat} (nb : Nat) (x t y : Nat) (hf : P.funcs[f]? = some fn) (hb : fn.body = some c)
    (hn : (fn.name == "runtime.NumGoroutine") = false) (hr : fn.results = #[.cell x t, .tmp y]) (hnt : fn.ntmps = n) (hsz : args.length ≤ n) (hnb : ∀ i, hget h i ≠ none → i < nb)
    (hs : Walk P n nb [.code c] (fun s' => ∃ id o, eget s'.e x = .box id o ∧ (aLoad P t (.box id o) (hget s'.h)).pre ∧ AV.tup [(aLoad P t (.box id o) (hget s'.h)).res, eget s'.e y] = r ∧ subH (hget s'.h) h') ⟨argE 0 args, h⟩) : ACalls P f args h r h' := by
  obtain ⟨s', ⟨id, o, hx, hp, h1, h0⟩, h2⟩ := hs
  subst hnt
  refine ⟨⟨fn, hf, by simp [hb], hn⟩, fun A β w vs hv hh => ?_⟩
  obtain ⟨hlen, hget⟩ := hv.get2
  have hlen' : vs.size = args.length := by simpa using hlen.symm
  intro cs
  let b : Frame := { (default : Frame) with fn := f, kind := .normal }
  have henter : Frame.enter P f vs .normal = b.at { tmps := vs ++ Array.replicate (fn.ntmps - vs.size) undef, defers := [] } [.code c] := by
    simp [Frame.enter, Frame.at, hf, hb, b]
  have hcfg : CfgF fn.ntmps A β (eget (argE 0 args)) (AX.hget h) { tmps := vs ++ Array.replicate (fn.ntmps - vs.size) undef, defers := [] } w := by
    refine ⟨by simp; omega, rfl, fun t => ?_, hh⟩
    rw [argE_get]
    simp only [Nat.not_lt_zero, if_false, Nat.sub_zero]
    by_cases ht : t < vs.size
    · have h1 : (vs ++ Array.replicate (fn.ntmps - vs.size) undef).getD t undef = vs[t] := by
        rw [Array.getD_eq_getD_getElem?, Array.getElem?_append_left ht]; simp [ht]
      rw [h1]
      obtain ⟨x, hx, hrx⟩ := hget t vs[t] (by simp [ht])
      rw [hx]; exact hrx
    · have : args[t]? = none := by rw [List.getElem?_eq_none_iff]; omega
      rw [this]; simp only [Option.getD_none, RepV]
  obtain ⟨a', w', t', s2, g1, rfl, A', β', g4, g5⟩ := h2 ⟨w, A, β, AX.hget h⟩ hnb _ w ⟨A, β, hcfg, Trans.refl _ _ _ _⟩ b cs
  obtain ⟨v, g8, g9⟩ := load_run g4 hx hp
  obtain ⟨g6, g7⟩ := g4.weaken (E' := eget s2.e) (fun _ => .inr rfl) (subH_get h0)
  have hres : (results fn a'.tmps).run P w' = .ok (.tuple #[v, a'.tmps.getD y undef]) w' := by
    simp only [results, hr]
    simp only [List.mapM_toArray, List.mapM_cons, List.mapM_nil] at ⊢
    simp
    simp at g8
    generalize Sem.run P (asAddr (a'.tmps[x]?.getD undef)) w' = X at g8 ⊢
    cases X with
    | ok a w1 =>
      simp only [Result.andThen] at g8 ⊢
      rw [g8]
    | halt e w1 => simp [Result.andThen] at g8
  have g9' : RepV w' A' β' (AX.hget h') (aLoad P t (.box id o) (AX.hget s2.h)).res v := RepV.stable (fun _ h => h) (fun _ _ => rfl) _ _ (fun i _ o' ho' => by
    rcases subH_get h0 i with h3 | h3
    · rw [h3] at ho'; cases ho'
    · exact ⟨o', by rw [← h3]; exact ho', Keep.refl _ _ _ _⟩) g9
  rw [henter]
  refine ⟨.returned (.tuple #[v, a'.tmps.getD y undef]), w', _, ⟨_, A', β', rfl, ?_, g6.heap, g5.comp g7 fun i _ hi => ?_⟩, g1, rfl, rfl, g4.defers, rfl, fn, hf, hres⟩
  · rw [← h1]
    simp only [RepV]
    exact ⟨_, rfl, by simp only [RepVs]; exact ⟨_, _, rfl, g9', _, _, rfl, g6.env y, rfl⟩⟩
  · rcases subH_get h0 i with h3 | h3
    · exact h3
    · rw [h3]; exact hi
end Go.AX
namespace Go.AX
def iA (x : Int) : AV := .d (.int .i64 x)
def bA (x : Bool) : AV := .d (.bool x)
theorem map_iA (l : List Int) : List.map iA l = List.map AV.d (List.map (D.int .i64) l) := by simp [iA, Function.comp_def]
theorem map_bA (l : List Bool) : List.map bA l = List.map AV.d (List.map D.bool l) := by simp [bA, Function.comp_def]
theorem rep_flat (m : Nat) (x : D) : (List.replicate m [x]).flatten = List.replicate m x := by
  induction m with
  | zero => rfl
  | succ m ih => simp only [List.replicate_succ, List.flatten_cons, ih]; rfl
theorem mkbox_i (m : Nat) (x : Int) : List.map AV.d (List.replicate m [D.int .i64 x]).flatten = List.map iA (List.replicate m x) := by rw [rep_flat]; simp [iA]
theorem mkbox_b (m : Nat) (x : Bool) : List.map AV.d (List.replicate m [D.bool x]).flatten = List.map bA (List.replicate m x) := by rw [rep_flat]; simp [bA]
theorem flat_iD (l : List Int) : List.map AV.d (List.map (fun x => [D.int .i64 x]) l).flatten = List.map iA l := by
  induction l with
  | nil => rfl
  | cons x r ih => simp only [List.map_cons, List.flatten_cons, List.map_append, ih]; rfl
theorem dataL_iA : ∀ l : List Int, dataL (List.map iA l) = True
  | [] => by simp [dataL]
  | x :: r => by simp only [List.map_cons, iA, dataL]; exact dataL_iA r
theorem dataL_bA : ∀ l : List Bool, dataL (List.map bA l) = True
  | [] => by simp [dataL]
  | x :: r => by simp only [List.map_cons, bA, dataL]; exact dataL_bA r
theorem one_iD (l : List Int) : List.map (fun d => [d]) (List.map (D.int .i64) l) = List.map iD l := by simp [iD, Function.comp_def]
theorem one_bD (l : List Bool) : List.map (fun d => [d]) (List.map D.bool l) = List.map bD l := by simp [bD, Function.comp_def]
theorem zv_u64 {x : Int} (h : 0 ≤ x ∧ x ≤ 18446744073709551615) : zv (.int .u64 x) = .d (.int .u64 x) := by
  show (if IntKind.u64.min ≤ x ∧ x ≤ IntKind.u64.max then AV.d (.int .u64 x) else .any) = _
  rw [show IntKind.u64.min = 0 from by decide, show IntKind.u64.max = 18446744073709551615 from by decide, if_pos h]
theorem flat_iD' (l : List Int) : List.map AV.d (List.map iD l).flatten = List.map iA l := flat_iD l
theorem flat_len (l : List Int) : (List.map iD l).flatten.length = l.length := by
  induction l with
  | nil => rfl
  | cons x r ih => simp only [List.map_cons, List.flatten_cons, List.length_append, ih, List.length_cons, iD, List.length_nil]; omega
theorem dataL_take (n : Nat) : ∀ l : List AV, dataL l → dataL (l.take n) := by
  intro l
  induction l generalizing n with
  | nil => intro _; simp [dataL]
  | cons x r ih =>
    intro h
    cases n with
    | zero => simp [dataL]
    | succ n =>
      cases x <;> first | exact h.elim | exact ih n h
theorem dataL_tA (n : Nat) (l : List Int) : dataL (List.take n (List.map iA l)) = True := eq_true (dataL_take n _ (by rw [dataL_iA]; trivial))
theorem dataL_ttA (n m : Nat) (l : List Int) : dataL (List.take n (List.take m (List.map iA l))) = True := eq_true (dataL_take n _ (by rw [dataL_tA]; trivial))
theorem spl_mt {τ τ' : Type} (f : τ → τ') (a b : List τ) (o n : Nat) : spl (a.map f) o ((b.map f).take n) = (spl a o (b.take n)).map f := by
  rw [← List.map_take, spl_map]
theorem spl_mtt {τ τ' : Type} (f : τ → τ') (a b : List τ) (o n m : Nat) : spl (a.map f) o (((b.map f).take m).take n) = (spl a o ((b.take m).take n)).map f := by
  rw [← List.map_take, ← List.map_take, spl_map]
theorem take_snoc {τ τ' : Type} (f : τ → τ') (l : List τ) (x : τ') : List.take (l.length + 1) (List.map f l ++ [x]) = List.map f l ++ [x] := by
  rw [List.take_of_length_le]; simp
def sA {τ : Type} (f : τ → List D) (l : List τ) : AV := .d (.sl (l.map f))
theorem sA_def {τ : Type} (f : τ → List D) (l : List τ) : sA f l = .d (.sl (l.map f)) := rfl
theorem mkbox_s (m : Nat) : List.map AV.d (List.replicate m [D.sl []]).flatten = List.replicate m (AV.d (.sl [])) := by rw [rep_flat]; simp
theorem hd_set {α : Type} {l : List α} {k : Nat} {x d : α} (h : k < l.length) : ((l.set k x).drop k).headD d = x := by
  have : (l.set k x).drop k = x :: l.drop (k + 1) := by
    rw [List.drop_eq_getElem_cons (by simpa using h)]
    simp [List.drop_set_of_lt]
  rw [this]; rfl
theorem splice_one {α : Type} {l : List α} {k : Nat} {x : α} (h : k < l.length) : splice l k [x] = l.set k x := by
  unfold splice
  rw [List.set_eq_take_append_cons_drop, if_pos h]; simp
theorem rdA_elim {τ ρ : Type} {l : List τ} {i : Int} {K : τ → Option ρ} {x : ρ} (h : (rd l i).bind K = some x) :
    ∃ y, rd l i = some y ∧ 0 ≤ i ∧ i < l.length ∧ (∀ (f : τ → List D) (j : Nat), j = i.toNat → (l.map f).getD j [] = f y) ∧ i.toNat < l.length ∧
      (∀ f : τ → AV, ((l.map f).drop i.toNat).headD .any = f y) ∧ (∀ f : τ → AV, ((l.drop i.toNat).map f).headD .any = f y) ∧ K y = some x := by
  obtain ⟨y, hy, h1, h2, h3, hx⟩ := rd_elim h
  have hlt : i.toNat < l.length := by omega
  have hg : l[i.toNat]? = some y := (rd_some hy).2.2
  have e : ∀ f : τ → AV, ((l.drop i.toNat).map f).headD .any = f y := fun f => by
    rw [List.drop_eq_getElem_cons hlt]
    rw [List.getElem?_eq_getElem hlt] at hg
    cases hg
    rfl
  exact ⟨y, hy, h1, h2, h3, hlt, fun f => by rw [← List.map_drop]; exact e f, e, hx⟩
theorem frVs_setS {id : Nat} {es : List (List D)} {x x' : AV} (hx : frV id es x x') {cs : List AV} {i : Nat} : frVs id es (cs.set i x) (cs.set i x') = True := eq_true (frVs_set id es x x' hx cs i)
theorem frVs_self (id : Nat) (es : List (List D)) (cs : List AV) : frVs id es cs cs = True := eq_true (frVs_refl id es cs)
theorem idsL_iA : ∀ l : List Int, AV.idsL (l.map iA) = []
  | [] => rfl
  | x :: r => by simp only [List.map_cons, AV.idsL, iA, AV.ids, idsL_iA r, List.append_nil]
theorem idsL_bA : ∀ l : List Bool, AV.idsL (l.map bA) = []
  | [] => rfl
  | x :: r => by simp only [List.map_cons, AV.idsL, bA, AV.ids, idsL_bA r, List.append_nil]
theorem idsL_sA {τ : Type} (f : τ → List D) : ∀ l : List (List τ), AV.idsL (l.map (sA f)) = []
  | [] => rfl
  | x :: r => by simp only [List.map_cons, AV.idsL, sA, AV.ids, idsL_sA f r, List.append_nil]
theorem idsL_set_mem {nm k : Nat} {cs : List AV} {x : AV} (h1 : nm ∉ AV.idsL cs) (h2 : nm ∉ x.ids) : (nm ∈ AV.idsL (cs.set k x)) = False := by
  simp only [eq_iff_iff, iff_false]
  induction cs generalizing k with
  | nil => exact h1
  | cons c r ih =>
    simp only [AV.idsL, List.mem_append, not_or] at h1
    cases k with
    | zero => simp only [List.set_cons_zero, AV.idsL, List.mem_append, not_or]; exact ⟨h2, h1.2⟩
    | succ k => simp only [List.set_cons_succ, AV.idsL, List.mem_append, not_or]; exact ⟨h1.1, ih h1.2⟩
theorem idsL_setE {k : Nat} {cs : List AV} {x : AV} (h1 : AV.idsL cs = []) (h : k < cs.length) : AV.idsL (cs.set k x) = x.ids := by
  induction cs generalizing k with
  | nil => simp at h
  | cons c r ih =>
    simp only [AV.idsL, List.append_eq_nil_iff] at h1
    cases k with
    | zero => simp only [List.set_cons_zero, AV.idsL, h1.2, List.append_nil]
    | succ k => simp only [List.set_cons_succ, AV.idsL, h1.1, List.nil_append]; exact ih h1.2 (by simpa using h)
theorem idsL_sub {k : Nat} {cs : List AV} {x : AV} {l : List Nat} (h1 : AV.idsL cs = []) (h2 : ∀ i ∈ x.ids, i ∈ l) : (∀ j ∈ AV.idsL (cs.set k x), j ∈ l) = True := by
  refine eq_true ?_
  induction cs generalizing k with
  | nil => simp [AV.idsL]
  | cons c r ih =>
    simp only [AV.idsL, List.append_eq_nil_iff] at h1
    cases k with
    | zero => simp only [List.set_cons_zero, AV.idsL, h1.2, List.append_nil]; exact h2
    | succ k => simp only [List.set_cons_succ, AV.idsL, h1.1, List.nil_append]; exact ih h1.2
def slD {τ : Type} (f : τ → List D) (l : List τ) : D := .sl (l.map f)
theorem map_sA {τ : Type} (f : τ → List D) (l : List (List τ)) : List.map (sA f) l = List.map AV.d (List.map (slD f) l) := by simp [sA, slD, Function.comp_def]
theorem one_slD {τ : Type} (f : τ → List D) (l : List (List τ)) : List.map (fun d => [d]) (List.map (slD f) l) = List.map (lD f) l := by simp [slD, lD, Function.comp_def]
theorem idsL_rep (n : Nat) (x : D) : AV.idsL (List.replicate n (.d x)) = [] := by
  induction n with
  | zero => rfl
  | succ n ih => simp only [List.replicate_succ, AV.idsL, AV.ids, ih, List.append_nil]
end Go.AX
namespace Go.AX
theorem take_set_len {τ : Type} (f : τ → List D) (l : List τ) (k : Nat) (x : List D) : List.take l.length ((l.map f).set k x) = (l.map f).set k x := by rw [List.take_of_length_le]; simp
end Go.AX
namespace Go.AX
theorem take_cons_drop {α : Type} {l : List α} {k : Nat} {x : α} (h : k < l.length) : List.take k l ++ x :: List.drop (k + 1) l = l.set k x := by
  rw [List.set_eq_take_append_cons_drop, if_pos h]
theorem cons_rep {α : Type} {n : Nat} {a x : α} (h : 0 < n) : x :: List.replicate (n - 1) a = (List.replicate n a).set 0 x := by
  obtain ⟨m, rfl⟩ : ∃ m, n = m + 1 := ⟨n - 1, by omega⟩
  rfl
theorem cons_tail {α : Type} {l : List α} {x : α} (h : 0 < l.length) : x :: l.tail = l.set 0 x := by
  cases l with
  | nil => simp at h
  | cons c r => rfl
end Go.AX
namespace Go.AX
theorem hd_set0 {α : Type} {l : List α} {x d : α} (h : 0 < l.length) : (l.set 0 x).headD d = x := by
  cases l with
  | nil => simp at h
  | cons c r => rfl
end Go.AX
set_option linter.unusedVariables false
set_option linter.unusedSimpArgs false
namespace Go.AX
def contOk (w : World) (A : Nat → Prop) (β : BF) (H : HF) (id : Nat) : AObj → Prop
  | .box cs => ∃ b c T, β id = some b ∧ w.heap[b]? = some (.cells c T (0, 0)) ∧ RepVs w A β H cs c.toList
  | .pre ds => ∃ b c T vs us, β id = some b ∧ w.heap[b]? = some (.cells c T (0, 0)) ∧ c.toList = vs ++ us ∧ RepVs w A β H (ds.map AV.d) vs
  | .arr _ _ _ => False
theorem CfgF.swap {n A β E H a w} (h : CfgF n A β E H a w) {id : Nat} {o o' : AObj} (ho : H id = some o) (hk : Keep w w β β id o o')
    (hc : contOk w A β H id o') {H' : HF} (hH : ∀ i, H' i = none ∨ (i ≠ id ∧ H' i = H i) ∨ (i = id ∧ H' i = some o')) :
    CfgF n A β E H' a w ∧ Trans w A β H w A β H' := by
  have hid : ∀ i o1, H' i = some o1 → ∃ o2, H i = some o2 ∧ Keep w w β β i o2 o1 := fun i o1 h1 => by
    rcases hH i with h2 | ⟨_, h2⟩ | ⟨rfl, h2⟩
    · rw [h2] at h1; cases h1
    · exact ⟨o1, by rw [← h2]; exact h1, Keep.refl _ _ _ _⟩
    · rw [h2] at h1; cases h1; exact ⟨o, ho, hk⟩
  have hn : ∀ i, H' i ≠ none → H i ≠ none := fun i hi => by
    cases h1 : H' i with
    | none => exact absurd h1 hi
    | some o1 => obtain ⟨o2, h2, _⟩ := hid i o1 h1; rw [h2]; simp
  have hs : ∀ x v, RepV w A β H x v → RepV w A β H' x v := fun x v hv => RepV.stable (fun _ h => h) (fun _ _ => rfl) _ _ (fun i _ => hid i) hv
  have hss : ∀ x v, RepVs w A β H x v → RepVs w A β H' x v := fun x v hv => RepVs.stable (fun _ h => h) (fun _ _ => rfl) _ _ (fun i _ => hid i) hv
  refine ⟨⟨h.size, h.defers, fun t => hs _ _ (h.env t), ⟨fun i cs hi => ?_, fun i T sz es hi => ?_, fun i j b hi hj => h.heap.inj i j b (hn i hi) (hn j hj), fun i b hi => h.heap.sepA i b (hn i hi), h.heap.bound, fun i ds hi => ?_⟩⟩,
    ⟨Nat.le_refl _, rfl, rfl, rfl, fun _ _ _ => rfl, fun _ h => h, fun _ h => .inl h, fun i b hi hb => .inr ⟨i, hn i hi, hb⟩, fun i o1 o2 h1 h2 => by
      obtain ⟨o3, h3, h4⟩ := hid i o2 h2
      rw [h1] at h3; cases h3; exact h4⟩⟩
  · rcases hH i with h2 | ⟨_, h2⟩ | ⟨rfl, h2⟩
    · rw [h2] at hi; cases hi
    · obtain ⟨b, c, T, h3, h4, h5⟩ := h.heap.box i cs (by rw [← h2]; exact hi)
      exact ⟨b, c, T, h3, h4, hss _ _ h5⟩
    · rw [h2] at hi; cases hi
      obtain ⟨b, c, T, h3, h4, h5⟩ := hc
      exact ⟨b, c, T, h3, h4, hss _ _ h5⟩
  · rcases hH i with h2 | ⟨_, h2⟩ | ⟨rfl, h2⟩
    · rw [h2] at hi; cases hi
    · exact h.heap.arr i T sz es (by rw [← h2]; exact hi)
    · rw [h2] at hi; cases hi; exact hc.elim
  · rcases hH i with h2 | ⟨_, h2⟩ | ⟨rfl, h2⟩
    · rw [h2] at hi; cases hi
    · obtain ⟨b, c, T, vs, us, h3, h4, h5, h6⟩ := h.heap.pre i ds (by rw [← h2]; exact hi)
      exact ⟨b, c, T, vs, us, h3, h4, h5, hss _ _ h6⟩
    · rw [h2] at hi; cases hi
      obtain ⟨b, c, T, vs, us, h3, h4, h5, h6⟩ := hc
      exact ⟨b, c, T, vs, us, h3, h4, h5, hss _ _ h6⟩
theorem RepVs_any {w A β H} : ∀ us : List Value, RepVs w A β H (List.replicate us.length .any) us
  | [] => by simp only [List.length_nil, List.replicate_zero, RepVs]
  | u :: r => by simp only [List.length_cons, List.replicate_succ, RepVs]; exact ⟨u, r, rfl, by simp only [RepV], RepVs_any r⟩
def swH (id : Nat) (o : AObj) (H : HF) : HL → Prop
  | [] => True
  | (i, x) :: r => ((i ≠ id ∧ x = H i) ∨ (i = id ∧ x = some o)) ∧ swH id o H r
theorem swH_get {id o H} : ∀ {h : HL}, swH id o H h → ∀ i, hget h i = none ∨ (i ≠ id ∧ hget h i = H i) ∨ (i = id ∧ hget h i = some o)
  | [], _, i => .inl rfl
  | (j, x) :: r, h, i => by
    simp only [hget]
    split
    · rename_i e; subst e; exact .inr h.1
    · exact swH_get h.2 i
section
variable {P : Program} {n nb : Nat} {R : St → Prop} {s t : St} {k : List Item}
/-- The end is settled before. -/
theorem Walk.fix (t : St) (hR : R t) (h : Walk P n nb k (fun x => x = t) s) : Walk P n nb k R s := h.mono fun x e => by subst e; exact hR
theorem Walk.swapG {id : Nat} {o : AObj} {h' : HL} (hH : swH id o (hget s.h) h')
    (hc : ∀ A β a w, CfgF n A β (eget s.e) (hget s.h) a w → ∃ o0, hget s.h id = some o0 ∧ Keep w w β β id o0 o ∧ contOk w A β (hget s.h) id o) (h0 : hget s.h id ≠ none)
    (h : Walk P n nb k R ⟨s.e, h'⟩) : Walk P n nb k R s := by
  refine h.ghost _ (fun A β a w hcf => ?_) fun i hn hs => ?_
  · obtain ⟨o0, h1, h2, h3⟩ := hc A β a w hcf
    exact ⟨A, β, hcf.swap h1 h2 h3 (swH_get hH)⟩
  · rcases swH_get hH i with h1 | ⟨_, h1⟩ | ⟨rfl, _⟩
    · exact absurd h1 hs
    · rw [h1] at hs; exact absurd hn hs
    · exact absurd hn h0
/-- Of a box only the first cells are kept in mind. -/
theorem Walk.toPre (id : Nat) (ds : List D) (rest : List AV) (h' : HL) (ho : hget s.h id = some (.box (ds.map AV.d ++ rest))) (hH : swH id (.pre ds) (hget s.h) h')
    (h : Walk P n nb k R ⟨s.e, h'⟩) : Walk P n nb k R s :=
  .swapG hH (fun A β a w hc => by
    obtain ⟨b, c, T, h1, h2, h3⟩ := hc.heap.box id _ ho
    obtain ⟨vs, us, h4, h5, h6⟩ : ∃ vs us, c.toList = vs ++ us ∧ RepVs w A β (hget s.h) (ds.map AV.d) vs ∧ True := by
      refine ⟨c.toList.take (ds.map AV.d).length, c.toList.drop (ds.map AV.d).length, (List.take_append_drop _ _).symm, ?_, trivial⟩
      have := h3.take (ds.map AV.d).length
      rwa [List.take_left'] at this
      rfl
    exact ⟨_, ho, ⟨rfl, fun _ _ => rfl⟩, b, c, T, vs, us, h1, h2, h4, h5⟩) (by rw [ho]; simp) h
/-- Fewer of the first cells are kept in mind. -/
theorem Walk.shrink (id : Nat) (ds r : List D) (h' : HL) (ho : hget s.h id = some (.pre (ds ++ r))) (hH : swH id (.pre ds) (hget s.h) h')
    (h : Walk P n nb k R ⟨s.e, h'⟩) : Walk P n nb k R s :=
  .swapG hH (fun A β a w hc => by
    obtain ⟨b, c, T, vs, us, h1, h2, h3, h4⟩ := hc.heap.pre id _ ho
    refine ⟨_, ho, ⟨rfl, fun _ _ => rfl⟩, b, c, T, vs.take ds.length, vs.drop ds.length ++ us, h1, h2, by rw [← List.append_assoc, List.take_append_drop]; exact h3, ?_⟩
    have := h4.take ds.length
    rw [List.map_append, List.take_left' (by simp)] at this
    exact this) (by rw [ho]; simp) h
/-- A block of which the first cells are known has some number of further ones. -/
theorem Walk.openPre (id : Nat) (ds : List D) (h' : Nat → HL) (ho : hget s.h id = some (.pre ds)) (hH : ∀ m, swH id (.box (ds.map AV.d ++ List.replicate m .any)) (hget s.h) (h' m))
    (h : ∀ m, Walk P n nb k (fun x => x = t) ⟨s.e, h' m⟩) : Walk P n nb k (fun x => x = t) s := by
  refine ⟨t, rfl, fun B hB a w hcf b cs => ?_⟩
  obtain ⟨A, β, hc, ht⟩ := hcf
  obtain ⟨bb, c, T, vs, us, h1, h2, h3, h4⟩ := hc.heap.pre id _ ho
  obtain ⟨t', e, hw⟩ := h us.length
  subst e
  obtain ⟨g1, g2⟩ := hc.swap ho (o' := .box (ds.map AV.d ++ List.replicate us.length .any)) ⟨rfl, fun _ _ => rfl⟩ ⟨bb, c, T, h1, h2, by rw [h3]; exact h4.append (RepVs_any us)⟩ (swH_get (hH us.length))
  refine hw B hB a w ⟨A, β, g1, ht.comp g2 fun i hi hn => ?_⟩ b cs
  rcases swH_get (hH us.length) i with q | ⟨_, q⟩ | ⟨rfl, _⟩
  · exact q
  · rw [q]; exact hn
  · rw [ho] at hn; cases hn
end

def baV (id nm : Nat) (x x' : AV) : Prop := (x = x' ∧ id ∉ x.ids) ∨ (∃ off len, x = .arr id off len ∧ x' = .arr nm off len)
def baE (id nm : Nat) (E : EF) : EL → Prop
  | [] => True
  | (t, x) :: r => baV id nm (E t) x ∧ baE id nm E r
def baH (id nm : Nat) (o : AObj) (H : HF) : HL → Prop
  | [] => True
  | (i, x) :: r => ((i ≠ id ∧ i ≠ nm ∧ x = H i ∧ ∀ y, H i = some y → id ∉ y.ids) ∨ (i = nm ∧ x = some o)) ∧ baH id nm o H r
theorem baE_get {id nm E} : ∀ {e : EL}, baE id nm E e → ∀ t, eget e t = .any ∨ baV id nm (E t) (eget e t)
  | [], _, t => .inl rfl
  | (j, x) :: r, h, t => by
    simp only [eget]
    split
    · rename_i e; subst e; exact .inr h.1
    · exact baE_get h.2 t
theorem baH_get {id nm o H} : ∀ {h : HL}, baH id nm o H h → ∀ i, hget h i = none ∨ (i ≠ id ∧ i ≠ nm ∧ hget h i = H i ∧ ∀ y, H i = some y → id ∉ y.ids) ∨ (i = nm ∧ hget h i = some o)
  | [], _, i => .inl rfl
  | (j, x) :: r, h, i => by
    simp only [hget]
    split
    · rename_i e; subst e; exact .inr h.1
    · exact baH_get h.2 i
theorem CfgF.boxArr {n A β E H a w} (h : CfgF n A β E H a w) {id nm T : Nat} {ds : List D} (ho : H id = some (.box (ds.map AV.d))) (hl : ds.length ≤ LB) (hf : Fresh nm E H) (hne : nm ≠ id) {E' : EF} {H' : HF}
    (hE : ∀ t, E' t = .any ∨ baV id nm (E t) (E' t)) (hH : ∀ i, H' i = none ∨ (i ≠ id ∧ i ≠ nm ∧ H' i = H i ∧ ∀ y, H i = some y → id ∉ y.ids) ∨ (i = nm ∧ H' i = some (.arr T 1 (ds.map fun d => [d])))) :
    CfgF n A (fun i => if i = nm then β id else β i) E' H' a w ∧ Trans w A β H w A (fun i => if i = nm then β id else β i) H' := by
  obtain ⟨b, c, T0, hb, hc, hr⟩ := h.heap.box id _ ho
  have hlen := hr.length
  simp at hlen
  have hk : ∀ i, i ≠ id → i ≠ nm → ∀ o1, H' i = some o1 → ∃ o2, H i = some o2 ∧ Keep w w β (fun i => if i = nm then β id else β i) i o2 o1 := fun i h1 h2 o1 h3 => by
    rcases hH i with h4 | ⟨_, _, h4, _⟩ | ⟨h4, _⟩
    · rw [h4] at h3; cases h3
    · rw [h4] at h3
      refine ⟨o1, h3, ?_⟩
      cases o1 with
      | box _ => exact ⟨by simp [h2], fun _ _ => rfl⟩
      | pre _ => exact ⟨by simp [h2], fun _ _ => rfl⟩
      | arr _ _ _ => exact ⟨rfl, rfl, Nat.le_refl _, fun _ => ⟨by simp [h2], fun _ _ => rfl⟩⟩
    · exact absurd h4 h2
  have hs : ∀ x v, id ∉ x.ids → nm ∉ x.ids → RepV w A β H x v → RepV w A (fun i => if i = nm then β id else β i) H' x v := fun x v h1 h2 hv =>
    RepV.stable (fun _ h => h) (fun _ _ => rfl) _ _ (fun i hi => hk i (fun e => h1 (e ▸ hi)) (fun e => h2 (e ▸ hi))) hv
  have hss : ∀ x v, id ∉ AV.idsL x → nm ∉ AV.idsL x → RepVs w A β H x v → RepVs w A (fun i => if i = nm then β id else β i) H' x v := fun x v h1 h2 hv =>
    RepVs.stable (fun _ h => h) (fun _ _ => rfl) _ _ (fun i hi => hk i (fun e => h1 (e ▸ hi)) (fun e => h2 (e ▸ hi))) hv
  have hcls : ∀ i, H' i ≠ none → (i = nm) ∨ (i ≠ nm ∧ i ≠ id ∧ H i ≠ none) := fun i hi => by
    rcases hH i with h4 | ⟨h1, h2, h4, _⟩ | ⟨h4, _⟩
    · exact absurd h4 hi
    · exact .inr ⟨h2, h1, by rw [← h4]; exact hi⟩
    · exact .inl h4
  have hid : H id ≠ none := by rw [ho]; simp
  refine ⟨⟨h.size, h.defers, fun t => ?_, ⟨fun i cs hi => ?_, fun i T sz es hi => ?_, fun i j b' hi hj h1 h2 => ?_, fun i b' hi hb' => ?_, h.heap.bound, fun i ds' hi => ?_⟩⟩,
    ⟨Nat.le_refl _, rfl, rfl, rfl, fun _ _ _ => rfl, fun _ h => h, fun _ h => .inl h, fun i b' hi hb' => ?_, fun i o1 o2 h1 h2 => ?_⟩⟩
  · rcases hE t with h1 | ⟨h1, h2⟩ | ⟨off, len, h1, h2⟩
    · rw [h1]; simp only [RepV]
    · rw [← h1]; exact hs _ _ h2 (hf.2.1 t) (h.env t)
    · rw [h2]
      have hv := h.env t
      rw [h1] at hv
      simp only [RepV, ho] at hv
      obtain ⟨b1, ad, cap, k1, k2, k3, k4, k5⟩ := hv
      rw [hb] at k1; cases k1
      have hsz : blkSize w b = ds.length := by simp only [blkSize, hc]; exact hlen
      simp only [RepV]
      rcases hH nm with h4 | ⟨_, h4, _⟩ | ⟨_, h4⟩
      · rw [h4]; trivial
      · exact absurd rfl h4
      · rw [h4]
        simp only [RepArr, List.length_map]
        refine ⟨⟨_, _, k2, k3⟩, by omega, fun he => .inr ⟨b, ad, cap, by simp [hb], k2, by rw [Nat.mul_one]; exact k4, by rw [Nat.mul_one]; exact k5, by simp only [LB] at hl; omega⟩⟩
  · rcases hH i with h4 | ⟨h1, h2, h4, h5⟩ | ⟨_, h4⟩
    · rw [h4] at hi; cases hi
    · rw [h4] at hi
      obtain ⟨b1, c1, T1, k1, k2, k3⟩ := h.heap.box i cs hi
      exact ⟨b1, c1, T1, by simp [h2, k1], k2, hss _ _ (h5 _ hi) (hf.2.2 i _ hi) k3⟩
    · rw [h4] at hi; cases hi
  · rcases hH i with h4 | ⟨h1, h2, h4, h5⟩ | ⟨h1, h4⟩
    · rw [h4] at hi; cases hi
    · rw [h4] at hi
      simp only [h2, if_false]
      exact h.heap.arr i T sz es hi
    · rw [h4] at hi; cases hi
      refine ⟨by simpa using hl, .inr ⟨b, c, by simp [h1, hb], ⟨_, hc⟩, by simp; omega, ?_⟩⟩
      refine RepEs_one _ _ fun j d hj => ?_
      obtain ⟨u, q1, q2⟩ := hr.get j (.d d) (by rw [List.getElem?_map, hj]; rfl)
      simp only [RepV] at q2
      exact ⟨u, by simpa [World.cell?, hc] using q1, q2⟩
  · rcases hcls i hi with e1 | ⟨e1, e1', e1''⟩ <;> rcases hcls j hj with e2 | ⟨e2, e2', e2''⟩
    · rw [e1, e2]
    · simp only [e1, e2, if_true, if_false] at h1 h2
      exact absurd (h.heap.inj id j b' hid e2'' h1 h2).symm e2'
    · simp only [e1, e2, if_true, if_false] at h1 h2
      exact absurd (h.heap.inj i id b' e1'' hid h1 h2) e1'
    · simp only [e1, e2, if_false] at h1 h2
      exact h.heap.inj i j b' e1'' e2'' h1 h2
  · rcases hcls i hi with e1 | ⟨e1, e1', e1''⟩
    · simp only [e1, if_true] at hb'
      exact h.heap.sepA id b' hid hb'
    · simp only [e1, if_false] at hb'
      exact h.heap.sepA i b' e1'' hb'
  · rcases hH i with h4 | ⟨h1, h2, h4, h5⟩ | ⟨_, h4⟩
    · rw [h4] at hi; cases hi
    · rw [h4] at hi
      obtain ⟨b1, c1, T1, vs, us, k1, k2, k3, k4⟩ := h.heap.pre i ds' hi
      exact ⟨b1, c1, T1, vs, us, by simp [h2, k1], k2, k3, k4.stableD (fun _ h => h) (fun _ _ => rfl)⟩
    · rw [h4] at hi; cases hi
  · rcases hcls i hi with e1 | ⟨e1, e1', e1''⟩
    · simp only [e1, if_true] at hb'
      exact .inr ⟨id, hid, hb'⟩
    · simp only [e1, if_false] at hb'
      exact .inr ⟨i, e1'', hb'⟩
  · rcases hcls i (by rw [h2]; simp) with e1 | ⟨e1, e1', e1''⟩
    · subst e1; rw [hf.1] at h1; cases h1
    · obtain ⟨o3, q1, q2⟩ := hk i e1' e1 o2 h2
      rw [h1] at q1; cases q1; exact q2
theorem Walk.boxArr {P : Program} {n nb : Nat} {R : St → Prop} {s : St} {k : List Item} (id nm T : Nat) (ds : List D) (e' : EL) (h' : HL) (ho : hget s.h id = some (.box (ds.map AV.d))) (hl : ds.length ≤ LB) (hnb : nb ≤ nm) (hne : nm ≠ id)
    (f1 : freshE nm s.e) (f2 : freshH nm s.h) (hE : baE id nm (eget s.e) e') (hH : baH id nm (.arr T 1 (ds.map fun d => [d])) (hget s.h) h') (h : Walk P n nb k R ⟨e', h'⟩) : Walk P n nb k R s := by
  refine h.ghost _ (fun A β a w hc => ⟨A, _, hc.boxArr ho hl (fresh_of f1 f2) hne (baE_get hE) (baH_get hH)⟩) fun i hn hs => ?_
  rcases baH_get hH i with h1 | ⟨_, _, h1, _⟩ | ⟨rfl, _⟩
  · exact absurd h1 hs
  · rw [h1] at hs; exact absurd hn hs
  · exact hnb
end Go.AX
set_option linter.unusedVariables false
set_option linter.unusedSimpArgs false
namespace Go.AX
section
variable {σ ρ τ : Type}
def Ole (a b : Option ρ) : Prop := ∀ r, a = some r → b = some r
theorem Ole.refl (a : Option ρ) : Ole a a := fun _ h => h
theorem Ole.bind {a a' : Option τ} {K K' : τ → Option ρ} (h1 : Ole a a') (h2 : ∀ y, Ole (K y) (K' y)) : Ole (a.bind K) (a'.bind K') := fun r h => by
  obtain ⟨y, h3, h4⟩ := bind_elim h
  rw [h1 y h3]; exact h2 y r h4
theorem Ole.bif {t : Bool} {a a' b b' : Option ρ} (h1 : Ole a a') (h2 : Ole b b') : Ole (cond t a b) (cond t a' b') := by cases t <;> assumption
theorem Ole.chk {p : Prop} [Decidable p] {a a' : Option ρ} (h : Ole a a') : Ole (chk p a) (chk p a') := fun r hr => by
  unfold AX.chk at hr ⊢
  split at hr
  · rename_i hp; rw [if_pos hp]; exact h r hr
  · cases hr
theorem Ole.exit {a a' : Option ρ} (h : Ole a a') : Ole (exitO (σ := σ) a) (exitO (σ := σ) a') := fun r hr => by
  unfold exitO at hr ⊢
  cases a with
  | none => cases hr
  | some x => rw [h x rfl]; exact hr
theorem Ole.iterN {f f' : σ → Option (σ ⊕ ρ)} (h : ∀ s, Ole (f s) (f' s)) : ∀ (k : Nat) (s : σ), Ole (iterN f k s) (iterN f' k s)
  | 0, s, r, hr => by simp [AX.iterN] at hr
  | k + 1, s, r, hr => by
    simp only [AX.iterN] at hr ⊢
    cases hf : f s with
    | none => rw [hf] at hr; cases hr
    | some y =>
      rw [hf] at hr
      rw [h s y hf]
      cases y with
      | inl s' => exact Ole.iterN h k s' r hr
      | inr x => exact hr
theorem Ole.iter {f f' : σ → Option (σ ⊕ ρ)} (h : ∀ s, Ole (f s) (f' s)) {s : σ} : Ole (iter f s) (iter f' s) := fun r hr => by
  obtain ⟨k, hk⟩ := iter_iff.1 hr
  exact iter_iff.2 ⟨k, Ole.iterN h k s r hk⟩
open Classical in
noncomputable def fixO (f : Nat → Option ρ) : Option ρ := if h : ∃ k, (f k).isSome then f h.choose else none
theorem fixO_some {f : Nat → Option ρ} {r : ρ} (h : fixO f = some r) : ∃ k, f k = some r := by
  unfold fixO at h
  split at h
  · exact ⟨_, h⟩
  · cases h
theorem fixO_eq {f : Nat → Option ρ} (hm : ∀ k, Ole (f k) (f (k + 1))) {k : Nat} {r : ρ} (h : f k = some r) : fixO f = some r := by
  have mono : ∀ d k r, f k = some r → f (k + d) = some r := by
    intro d
    induction d with
    | zero => intro k r h; exact h
    | succ d ih => intro k r h; rw [Nat.add_succ]; exact hm (k + d) r (ih k r h)
  unfold fixO
  have hex : ∃ k, (f k).isSome := ⟨k, by simp [h]⟩
  rw [dif_pos hex]
  obtain ⟨r', hr'⟩ := Option.isSome_iff_exists.1 hex.choose_spec
  have h1 := mono hex.choose k r h
  have h2 := mono k hex.choose r' hr'
  rw [Nat.add_comm] at h2
  rw [h1] at h2
  rw [hr', h2]
end
theorem baV_arr (id nm o l : Nat) : baV id nm (.arr id o l) (.arr nm o l) = True := eq_true (.inr ⟨o, l, rfl, rfl⟩)
end Go.AX
set_option linter.unusedVariables false
set_option linter.unusedSimpArgs false
namespace Go.AX
def apV (id nm n : Nat) (x x' : AV) : Prop := (x = x' ∧ id ∉ x.ids) ∨ (x = .arr id 0 n ∧ x' = .arr nm 0 n)
def apE (id nm n : Nat) (E : EF) : EL → Prop
  | [] => True
  | (t, x) :: r => apV id nm n (E t) x ∧ apE id nm n E r
theorem apE_get {id nm n E} : ∀ {e : EL}, apE id nm n E e → ∀ t, eget e t = .any ∨ apV id nm n (E t) (eget e t)
  | [], _, t => .inl rfl
  | (j, x) :: r, h, t => by
    simp only [eget]
    split
    · rename_i e; subst e; exact .inr h.1
    · exact apE_get h.2 t
theorem flat_one : ∀ ds : List D, (ds.map fun d => [d]).flatten = ds
  | [] => rfl
  | x :: r => by simp only [List.map_cons, List.flatten_cons, flat_one r]; rfl
theorem CfgF.arrPre {n A β E H a w} (h : CfgF n A β E H a w) {id nm T : Nat} {ds : List D} (ho : H id = some (.arr T 1 (ds.map fun d => [d]))) (hl : 0 < ds.length) (hf : Fresh nm E H) (hne : nm ≠ id) {E' : EF} {H' : HF}
    (hE : ∀ t, E' t = .any ∨ apV id nm ds.length (E t) (E' t)) (hH : ∀ i, H' i = none ∨ (i ≠ id ∧ i ≠ nm ∧ H' i = H i ∧ ∀ y, H i = some y → id ∉ y.ids) ∨ (i = nm ∧ H' i = some (.pre ds))) :
    CfgF n A (fun i => if i = nm then β id else β i) E' H' a w ∧ Trans w A β H w A (fun i => if i = nm then β id else β i) H' := by
  obtain ⟨hLB, hr0⟩ := h.heap.arr id _ _ _ ho
  rcases hr0 with ⟨_, hr0⟩ | ⟨b, c, hb, ⟨T0, hc⟩, hcs, hr⟩
  · rw [List.map_eq_nil_iff] at hr0; rw [hr0] at hl; exact absurd hl (by simp)
  obtain ⟨_, vs0, hv1, hv2, hv3⟩ := hr.values
  have hfl := flat_one ds
  rw [hfl] at hv2
  have hsplit : c.toList = vs0 ++ c.toList.drop vs0.length := by
    have h1 : vs0 = c.toList.take vs0.length := by
      apply List.ext_getElem?
      intro j
      rw [List.getElem?_take]
      split
      · rename_i hj
        have h2 := hv3 j vs0[j] (by simp [hj])
        simp only [Nat.zero_add, World.cell?, hc] at h2
        simp at h2
        rw [List.getElem?_eq_getElem hj]
        simp [h2]
      · rename_i hj
        exact List.getElem?_eq_none (by omega)
    rw [← List.take_append_drop vs0.length c.toList]
    rw [← h1]
    simp
  have hk : ∀ i, i ≠ id → i ≠ nm → ∀ o1, H' i = some o1 → ∃ o2, H i = some o2 ∧ Keep w w β (fun i => if i = nm then β id else β i) i o2 o1 := fun i h1 h2 o1 h3 => by
    rcases hH i with h4 | ⟨_, _, h4, _⟩ | ⟨h4, _⟩
    · rw [h4] at h3; cases h3
    · rw [h4] at h3
      refine ⟨o1, h3, ?_⟩
      cases o1 with
      | box _ => exact ⟨by simp [h2], fun _ _ => rfl⟩
      | pre _ => exact ⟨by simp [h2], fun _ _ => rfl⟩
      | arr _ _ _ => exact ⟨rfl, rfl, Nat.le_refl _, fun _ => ⟨by simp [h2], fun _ _ => rfl⟩⟩
    · exact absurd h4 h2
  have hs : ∀ x v, id ∉ x.ids → nm ∉ x.ids → RepV w A β H x v → RepV w A (fun i => if i = nm then β id else β i) H' x v := fun x v h1 h2 hv =>
    RepV.stable (fun _ h => h) (fun _ _ => rfl) _ _ (fun i hi => hk i (fun e => h1 (e ▸ hi)) (fun e => h2 (e ▸ hi))) hv
  have hss : ∀ x v, id ∉ AV.idsL x → nm ∉ AV.idsL x → RepVs w A β H x v → RepVs w A (fun i => if i = nm then β id else β i) H' x v := fun x v h1 h2 hv =>
    RepVs.stable (fun _ h => h) (fun _ _ => rfl) _ _ (fun i hi => hk i (fun e => h1 (e ▸ hi)) (fun e => h2 (e ▸ hi))) hv
  have hcls : ∀ i, H' i ≠ none → (i = nm) ∨ (i ≠ nm ∧ i ≠ id ∧ H i ≠ none) := fun i hi => by
    rcases hH i with h4 | ⟨h1, h2, h4, _⟩ | ⟨h4, _⟩
    · exact absurd h4 hi
    · exact .inr ⟨h2, h1, by rw [← h4]; exact hi⟩
    · exact .inl h4
  have hid : H id ≠ none := by rw [ho]; simp
  refine ⟨⟨h.size, h.defers, fun t => ?_, ⟨fun i cs hi => ?_, fun i T sz es hi => ?_, fun i j b' hi hj h1 h2 => ?_, fun i b' hi hb' => ?_, h.heap.bound, fun i ds' hi => ?_⟩⟩,
    ⟨Nat.le_refl _, rfl, rfl, rfl, fun _ _ _ => rfl, fun _ h => h, fun _ h => .inl h, fun i b' hi hb' => ?_, fun i o1 o2 h1 h2 => ?_⟩⟩
  · rcases hE t with h1 | ⟨h1, h2⟩ | ⟨h1, h2⟩
    · rw [h1]; simp only [RepV]
    · rw [← h1]; exact hs _ _ h2 (hf.2.1 t) (h.env t)
    · rw [h2]
      have hv := h.env t
      rw [h1] at hv
      simp only [RepV, ho, RepArr, List.length_map] at hv
      obtain ⟨⟨a0, cap0, k1, k2⟩, _, k3⟩ := hv
      simp only [RepV]
      rcases hH nm with h4 | ⟨_, h4, _⟩ | ⟨_, h4⟩
      · rw [h4]; trivial
      · exact absurd rfl h4
      · rw [h4]
        rcases k3 (by omega) with ⟨k4, _⟩ | ⟨b1, a1, cap1, k4, k5, k6, k7, _⟩
        · rw [hb] at k4; cases k4
        · rw [hb] at k4; cases k4
          rw [k5] at k1; cases k1
          exact ⟨b, a1, cap0, by simp [hb], k5, k2, by simpa using k6, by simpa using k7⟩
  · rcases hH i with h4 | ⟨h1, h2, h4, h5⟩ | ⟨_, h4⟩
    · rw [h4] at hi; cases hi
    · rw [h4] at hi
      obtain ⟨b1, c1, T1, k1, k2, k3⟩ := h.heap.box i cs hi
      exact ⟨b1, c1, T1, by simp [h2, k1], k2, hss _ _ (h5 _ hi) (hf.2.2 i _ hi) k3⟩
    · rw [h4] at hi; cases hi
  · rcases hH i with h4 | ⟨h1, h2, h4, h5⟩ | ⟨h1, h4⟩
    · rw [h4] at hi; cases hi
    · rw [h4] at hi
      simp only [h2, if_false]
      exact h.heap.arr i T sz es hi
    · rw [h4] at hi; cases hi
  · rcases hcls i hi with e1 | ⟨e1, e1', e1''⟩ <;> rcases hcls j hj with e2 | ⟨e2, e2', e2''⟩
    · rw [e1, e2]
    · simp only [e1, e2, if_true, if_false] at h1 h2
      exact absurd (h.heap.inj id j b' hid e2'' h1 h2).symm e2'
    · simp only [e1, e2, if_true, if_false] at h1 h2
      exact absurd (h.heap.inj i id b' e1'' hid h1 h2) e1'
    · simp only [e1, e2, if_false] at h1 h2
      exact h.heap.inj i j b' e1'' e2'' h1 h2
  · rcases hcls i hi with e1 | ⟨e1, e1', e1''⟩
    · simp only [e1, if_true] at hb'
      exact h.heap.sepA id b' hid hb'
    · simp only [e1, if_false] at hb'
      exact h.heap.sepA i b' e1'' hb'
  · rcases hH i with h4 | ⟨h1, h2, h4, h5⟩ | ⟨h1, h4⟩
    · rw [h4] at hi; cases hi
    · rw [h4] at hi
      obtain ⟨b1, c1, T1, vs, us, k1, k2, k3, k4⟩ := h.heap.pre i ds' hi
      exact ⟨b1, c1, T1, vs, us, by simp [h2, k1], k2, k3, k4.stableD (fun _ h => h) (fun _ _ => rfl)⟩
    · rw [h4] at hi; cases hi
      exact ⟨b, c, T0, vs0, _, by simp [h1, hb], hc, hsplit, RepVs_d.2 hv2⟩
  · rcases hcls i hi with e1 | ⟨e1, e1', e1''⟩
    · simp only [e1, if_true] at hb'
      exact .inr ⟨id, hid, hb'⟩
    · simp only [e1, if_false] at hb'
      exact .inr ⟨i, e1'', hb'⟩
  · rcases hcls i (by rw [h2]; simp) with e1 | ⟨e1, e1', e1''⟩
    · subst e1; rw [hf.1] at h1; cases h1
    · obtain ⟨o3, q1, q2⟩ := hk i e1' e1 o2 h2
      rw [h1] at q1; cases q1; exact q2
section
variable {P : Program} {n nb : Nat} {R : St → Prop} {s t : St} {k : List Item}
theorem Walk.arrPre (id nm T : Nat) (ds : List D) (e' : EL) (h' : HL) (ho : hget s.h id = some (.arr T 1 (ds.map fun d => [d]))) (hl : 0 < ds.length) (hnb : nb ≤ nm) (hne : nm ≠ id)
    (f1 : freshE nm s.e) (f2 : freshH nm s.h) (hE : apE id nm ds.length (eget s.e) e') (hH : baH id nm (.pre ds) (hget s.h) h') (h : Walk P n nb k R ⟨e', h'⟩) : Walk P n nb k R s := by
  refine h.ghost _ (fun A β a w hc => ⟨A, _, hc.arrPre ho hl (fresh_of f1 f2) hne (apE_get hE) (baH_get hH)⟩) fun i hn hs => ?_
  rcases baH_get hH i with h1 | ⟨_, _, h1, _⟩ | ⟨rfl, _⟩
  · exact absurd h1 hs
  · rw [h1] at hs; exact absurd hn hs
  · exact hnb
/-- A block of which the first cells are known ends there, or has a further one. -/
theorem Walk.openP {e : EL} {h : HL} (id : Nat) (l : List Int) (h0 : HL) (h1 : Nat → HL) (ho : hget h id = some (.pre (List.map (D.int .i64) l)))
    (hH0 : swH id (.box (List.map iA l)) (hget h) h0) (hH1 : ∀ m, swH id (.box (List.map iA l ++ .any :: List.replicate m .any)) (hget h) (h1 m))
    (w0 : Walk P n nb k (fun x => x = t) ⟨e, h0⟩) (w1 : ∀ m, Walk P n nb k (fun x => x = t) ⟨e, h1 m⟩) : Walk P n nb k (fun x => x = t) ⟨e, h⟩ :=
  Walk.openPre id (List.map (D.int .i64) l) (fun m => match m with | 0 => h0 | m + 1 => h1 m) ho (fun m => by
    rw [← map_iA]
    cases m with
    | zero => simpa using hH0
    | succ m => exact hH1 m) (fun m => by
    cases m with
    | zero => exact w0
    | succ m => exact w1 m)
theorem Walk.boxPre {e : EL} {h : HL} (id : Nat) (l : List Int) (h' : HL) (ho : hget h id = some (.box (List.map iA l))) (hH : swH id (.pre (List.map (D.int .i64) l)) (hget h) h')
    (hw : Walk P n nb k R ⟨e, h'⟩) : Walk P n nb k R ⟨e, h⟩ :=
  Walk.toPre id (List.map (D.int .i64) l) [] h' (by rw [← map_iA, List.append_nil]; exact ho) hH hw
end
theorem allDs_iA : ∀ l : List Int, allDs (List.map iA l) = True
  | [] => by simp [allDs]
  | x :: r => by simp only [List.map_cons, iA, allDs]; exact allDs_iA r
theorem dsOf_iA : ∀ l : List Int, dsOf (List.map iA l) = List.map (D.int .i64) l
  | [] => rfl
  | x :: r => by simp only [List.map_cons, iA, dsOf]; rw [← dsOf_iA r]
theorem appBox_full (P : Program) (nm t id : Nat) (l : List Int) (ys : List (List D)) (yp free : Prop) :
    aAppendBox P nm t id l.length (List.map iA l) ys yp free = ⟨free ∧ (mkTI P t).k.isSl = true ∧ (mkTI P (mkTI P t).k.el).size = 1 ∧ (mkTI P (mkTI P t).k.el).zero.length = (mkTI P (mkTI P t).k.el).size ∧ yp ∧ (∀ e ∈ ys, e.length = 1) ∧ ys.length = 1 ∧ (l.length + 1) * (mkTI P (mkTI P t).k.el).bytes ≤ 140737488355328 ∧ l.length + 1 ≤ LB,
      .arr nm 0 (l.length + 1), [(nm, some (.pre (List.map (D.int .i64) l ++ ys.flatten)))]⟩ := by
  have e1 : (List.map iA l).take l.length = List.map iA l := List.take_of_length_le (by simp)
  unfold aAppendBox
  simp only [e1, allDs_iA, dsOf_iA, List.length_map, Nat.lt_irrefl, decide_false, cond_false, Nat.le_refl, true_and]
theorem appBox_room (P : Program) (nm t id m : Nat) (l : List Int) (ys : List (List D)) (yp free : Prop) :
    aAppendBox P nm t id l.length (List.map iA l ++ .any :: List.replicate m .any) ys yp free = ⟨free ∧ (mkTI P t).k.isSl = true ∧ (mkTI P (mkTI P t).k.el).size = 1 ∧ (mkTI P (mkTI P t).k.el).zero.length = (mkTI P (mkTI P t).k.el).size ∧ yp ∧ (∀ e ∈ ys, e.length = 1) ∧ ys.length = 1 ∧ (l.length + 1) * (mkTI P (mkTI P t).k.el).bytes ≤ 140737488355328 ∧ l.length + 1 ≤ LB,
      .arr id 0 (l.length + 1), [(id, some (.pre (List.map (D.int .i64) l ++ ys.flatten)))]⟩ := by
  have e1 : (List.map iA l ++ AV.any :: List.replicate m AV.any).take l.length = List.map iA l := List.take_left' (by simp)
  have e2 : l.length < (List.map iA l ++ AV.any :: List.replicate m AV.any).length := by simp
  unfold aAppendBox
  simp only [e1, e2, Nat.le_of_lt e2, allDs_iA, dsOf_iA, decide_true, cond_true, true_and]
theorem pre_iA (l : List Int) : List.map AV.d (List.map (D.int .i64) l) = List.map iA l := (map_iA l).symm
end Go.AX
namespace Go.AX
theorem ids_pre (ds : List D) : (AObj.pre ds).ids = [] := rfl
end Go.AX
namespace Go.AX
theorem idsL_any : ∀ m : Nat, AV.idsL (List.replicate m .any) = []
  | 0 => rfl
  | m + 1 => by simp only [List.replicate_succ, AV.idsL, AV.ids, idsL_any m, List.append_nil]
theorem idsL_room : ∀ (l : List Int) (m : Nat), AV.idsL (List.map iA l ++ AV.any :: List.replicate m .any) = []
  | [], m => by simp only [List.map_nil, List.nil_append, AV.idsL, AV.ids, idsL_any]
  | x :: r, m => by simp only [List.map_cons, List.cons_append, AV.idsL, iA, AV.ids, List.nil_append]; exact idsL_room r m
end Go.AX
namespace Go.AX
/-- A slice without elements is nil or not. -/
theorem Walk.nlS {P : Program} {n nb : Nat} {t : St} {k : List Item} {e : EL} {h : HL} (x : Nat) (ho : eget e x = .d (.sl []))
    (hw : ∀ b, Walk P n nb k (fun s => s = t) ⟨(x, .nl b) :: e, h⟩) : Walk P n nb k (fun s => s = t) ⟨e, h⟩ := by
  refine ⟨t, rfl, fun B hB a w hcf b cs => ?_⟩
  obtain ⟨A, β, hc, ht⟩ := hcf
  have h2 := hc.env x
  simp only [ho, RepV, RepD] at h2
  obtain ⟨ad, cap, e1, _, _, _⟩ := h2
  obtain ⟨t', e2, hw'⟩ := hw ad.isNone
  subst e2
  refine hw' B hB a w ⟨A, β, ⟨hc.size, hc.defers, fun j => ?_, hc.heap⟩, ht⟩ b cs
  simp only [eget]
  split
  · rename_i hj
    subst hj
    simp only [RepV]
    exact ⟨ad, cap, by simpa using e1, rfl⟩
  · exact hc.env j
theorem bif_pos {α : Type} {p : Prop} [Decidable p] (h : p) (a b : α) : (bif decide p then a else b) = a := by simp [h]
theorem bif_neg {α : Type} {p : Prop} [Decidable p] (h : ¬p) (a b : α) : (bif decide p then a else b) = b := by simp [h]
end Go.AX
set_option linter.unusedVariables false
namespace Go.AX
open Go.Proofs
theorem ti1 : mkTI Try.prog 1 = ⟨TK.fn, 1, 8, [AV.any]⟩ := by kernel_rfl
theorem ti2 : mkTI Try.prog 2 = ⟨TK.int .i64, 1, 8, [AV.d (D.int .i64 0)]⟩ := by kernel_rfl
theorem ti3 : mkTI Try.prog 3 = ⟨TK.int .i64, 1, 8, [AV.d (D.int .i64 0)]⟩ := by kernel_rfl
theorem ti4 : mkTI Try.prog 4 = ⟨TK.bool, 1, 1, [AV.d (D.bool false)]⟩ := by kernel_rfl
theorem ti5 : mkTI Try.prog 5 = ⟨TK.int .u8, 1, 1, [AV.d (D.int .u8 0)]⟩ := by kernel_rfl
theorem ti6 : mkTI Try.prog 6 = ⟨TK.int .u8, 1, 1, [AV.d (D.int .u8 0)]⟩ := by kernel_rfl
theorem ti7 : mkTI Try.prog 7 = ⟨TK.struct [(0, 2), (1, 3), (2, 4), (3, 6)], 4, 24, [AV.d (D.int .i64 0), AV.d (D.int .i64 0), AV.d (D.bool false), AV.d (D.int .u8 0)]⟩ := by kernel_rfl
theorem ti8 : mkTI Try.prog 8 = ⟨TK.struct [(0, 2), (1, 3), (2, 4), (3, 6)], 4, 24, [AV.d (D.int .i64 0), AV.d (D.int .i64 0), AV.d (D.bool false), AV.d (D.int .u8 0)]⟩ := by kernel_rfl
theorem ti9 : mkTI Try.prog 9 = ⟨TK.str, 1, 16, [AV.d (D.str [])]⟩ := by kernel_rfl
theorem ti10 : mkTI Try.prog 10 = ⟨TK.str, 1, 16, [AV.d (D.str [])]⟩ := by kernel_rfl
theorem ti11 : mkTI Try.prog 11 = ⟨TK.str, 1, 16, [AV.d (D.str [])]⟩ := by kernel_rfl
theorem ti12 : mkTI Try.prog 12 = ⟨TK.int .u64, 1, 8, [AV.d (D.int .u64 0)]⟩ := by kernel_rfl
theorem ti13 : mkTI Try.prog 13 = ⟨TK.struct [(0, 9), (1, 12)], 2, 24, [AV.d (D.str []), AV.d (D.int .u64 0)]⟩ := by kernel_rfl
theorem ti14 : mkTI Try.prog 14 = ⟨TK.struct [(0, 9), (1, 12)], 2, 24, [AV.d (D.str []), AV.d (D.int .u64 0)]⟩ := by kernel_rfl
theorem ti15 : mkTI Try.prog 15 = ⟨TK.ptr 129, 1, 8, [AV.nilp]⟩ := by kernel_rfl
theorem ti16 : mkTI Try.prog 16 = ⟨TK.ptr 132, 1, 8, [AV.nilp]⟩ := by kernel_rfl
theorem ti17 : mkTI Try.prog 17 = ⟨TK.ptr 140, 1, 8, [AV.nilp]⟩ := by kernel_rfl
theorem ti18 : mkTI Try.prog 18 = ⟨TK.struct [(0, 17)], 1, 8, [AV.nilp]⟩ := by kernel_rfl
theorem ti19 : mkTI Try.prog 19 = ⟨TK.struct [(0, 17)], 1, 8, [AV.nilp]⟩ := by kernel_rfl
theorem ti21 : mkTI Try.prog 21 = ⟨TK.int .i32, 1, 4, [AV.d (D.int .i32 0)]⟩ := by kernel_rfl
theorem ti22 : mkTI Try.prog 22 = ⟨TK.slice 3, 1, 24, [AV.nils]⟩ := by kernel_rfl
theorem ti23 : mkTI Try.prog 23 = ⟨TK.slice 47, 1, 24, [AV.nils]⟩ := by kernel_rfl
theorem ti24 : mkTI Try.prog 24 = ⟨TK.struct [(0, 22), (1, 23)], 2, 48, [AV.nils, AV.nils]⟩ := by kernel_rfl
theorem ti25 : mkTI Try.prog 25 = ⟨TK.struct [(0, 22), (1, 23)], 2, 48, [AV.nils, AV.nils]⟩ := by kernel_rfl
theorem ti26 : mkTI Try.prog 26 = ⟨TK.ptr 77, 1, 8, [AV.nilp]⟩ := by kernel_rfl
theorem ti27 : mkTI Try.prog 27 = ⟨TK.fn, 1, 8, [AV.any]⟩ := by kernel_rfl
theorem ti28 : mkTI Try.prog 28 = ⟨TK.fn, 1, 8, [AV.any]⟩ := by kernel_rfl
theorem ti29 : mkTI Try.prog 29 = ⟨TK.slice 22, 1, 24, [AV.nils]⟩ := by kernel_rfl
theorem ti30 : mkTI Try.prog 30 = ⟨TK.int .i64, 1, 8, [AV.d (D.int .i64 0)]⟩ := by kernel_rfl
theorem ti32 : mkTI Try.prog 32 = ⟨TK.fn, 1, 8, [AV.any]⟩ := by kernel_rfl
theorem ti33 : mkTI Try.prog 33 = ⟨TK.fn, 1, 8, [AV.any]⟩ := by kernel_rfl
theorem ti34 : mkTI Try.prog 34 = ⟨TK.fn, 1, 8, [AV.any]⟩ := by kernel_rfl
theorem ti35 : mkTI Try.prog 35 = ⟨TK.fn, 1, 8, [AV.any]⟩ := by kernel_rfl
theorem ti36 : mkTI Try.prog 36 = ⟨TK.slice 86, 1, 24, [AV.nils]⟩ := by kernel_rfl
theorem ti37 : mkTI Try.prog 37 = ⟨TK.struct [(0, 4), (1, 22), (2, 3), (3, 36)], 4, 64, [AV.d (D.bool false), AV.nils, AV.d (D.int .i64 0), AV.nils]⟩ := by kernel_rfl
theorem ti38 : mkTI Try.prog 38 = ⟨TK.struct [(0, 4), (1, 22), (2, 3), (3, 36)], 4, 64, [AV.d (D.bool false), AV.nils, AV.d (D.int .i64 0), AV.nils]⟩ := by kernel_rfl
theorem ti40 : mkTI Try.prog 40 = ⟨TK.fn, 1, 8, [AV.any]⟩ := by kernel_rfl
theorem ti41 : mkTI Try.prog 41 = ⟨TK.fn, 1, 8, [AV.any]⟩ := by kernel_rfl
theorem ti42 : mkTI Try.prog 42 = ⟨TK.fn, 1, 8, [AV.any]⟩ := by kernel_rfl
theorem ti43 : mkTI Try.prog 43 = ⟨TK.fn, 1, 8, [AV.any]⟩ := by kernel_rfl
theorem ti44 : mkTI Try.prog 44 = ⟨TK.fn, 1, 8, [AV.any]⟩ := by kernel_rfl
theorem ti45 : mkTI Try.prog 45 = ⟨TK.array 12 5, 12, 12, [AV.d (D.int .u8 0), AV.d (D.int .u8 0), AV.d (D.int .u8 0), AV.d (D.int .u8 0), AV.d (D.int .u8 0), AV.d (D.int .u8 0), AV.d (D.int .u8 0), AV.d (D.int .u8 0), AV.d (D.int .u8 0), AV.d (D.int .u8 0), AV.d (D.int .u8 0), AV.d (D.int .u8 0)]⟩ := by kernel_rfl
theorem ti46 : mkTI Try.prog 46 = ⟨TK.struct [(0, 22), (1, 3), (2, 3)], 3, 40, [AV.nils, AV.d (D.int .i64 0), AV.d (D.int .i64 0)]⟩ := by kernel_rfl
theorem ti47 : mkTI Try.prog 47 = ⟨TK.struct [(0, 22), (1, 3), (2, 3)], 3, 40, [AV.nils, AV.d (D.int .i64 0), AV.d (D.int .i64 0)]⟩ := by kernel_rfl
theorem ti48 : mkTI Try.prog 48 = ⟨TK.array 12 4, 12, 12, [AV.d (D.bool false), AV.d (D.bool false), AV.d (D.bool false), AV.d (D.bool false), AV.d (D.bool false), AV.d (D.bool false), AV.d (D.bool false), AV.d (D.bool false), AV.d (D.bool false), AV.d (D.bool false), AV.d (D.bool false), AV.d (D.bool false)]⟩ := by kernel_rfl
theorem ti49 : mkTI Try.prog 49 = ⟨TK.fn, 1, 8, [AV.any]⟩ := by kernel_rfl
theorem ti50 : mkTI Try.prog 50 = ⟨TK.fn, 1, 8, [AV.any]⟩ := by kernel_rfl
theorem ti51 : mkTI Try.prog 51 = ⟨TK.fn, 1, 8, [AV.any]⟩ := by kernel_rfl
theorem ti52 : mkTI Try.prog 52 = ⟨TK.fn, 1, 8, [AV.any]⟩ := by kernel_rfl
theorem ti54 : mkTI Try.prog 54 = ⟨TK.fn, 1, 8, [AV.any]⟩ := by kernel_rfl
theorem ti55 : mkTI Try.prog 55 = ⟨TK.fn, 1, 8, [AV.any]⟩ := by kernel_rfl
theorem ti56 : mkTI Try.prog 56 = ⟨TK.fn, 1, 8, [AV.any]⟩ := by kernel_rfl
theorem ti57 : mkTI Try.prog 57 = ⟨TK.fn, 1, 8, [AV.any]⟩ := by kernel_rfl
theorem ti58 : mkTI Try.prog 58 = ⟨TK.int .u64, 1, 8, [AV.d (D.int .u64 0)]⟩ := by kernel_rfl
theorem ti59 : mkTI Try.prog 59 = ⟨TK.fn, 1, 8, [AV.any]⟩ := by kernel_rfl
theorem ti61 : mkTI Try.prog 61 = ⟨TK.fn, 1, 8, [AV.any]⟩ := by kernel_rfl
theorem ti62 : mkTI Try.prog 62 = ⟨TK.slice 66, 1, 24, [AV.nils]⟩ := by kernel_rfl
theorem ti63 : mkTI Try.prog 63 = ⟨TK.fn, 1, 8, [AV.any]⟩ := by kernel_rfl
theorem ti64 : mkTI Try.prog 64 = ⟨TK.slice 97, 1, 24, [AV.nils]⟩ := by kernel_rfl
theorem ti65 : mkTI Try.prog 65 = ⟨TK.struct [(0, 3), (1, 3), (2, 9), (3, 64), (4, 22)], 5, 80, [AV.d (D.int .i64 0), AV.d (D.int .i64 0), AV.d (D.str []), AV.nils, AV.nils]⟩ := by kernel_rfl
theorem ti66 : mkTI Try.prog 66 = ⟨TK.struct [(0, 3), (1, 3), (2, 9), (3, 64), (4, 22)], 5, 80, [AV.d (D.int .i64 0), AV.d (D.int .i64 0), AV.d (D.str []), AV.nils, AV.nils]⟩ := by kernel_rfl
theorem ti67 : mkTI Try.prog 67 = ⟨TK.fn, 1, 8, [AV.any]⟩ := by kernel_rfl
theorem ti68 : mkTI Try.prog 68 = ⟨TK.slice 74, 1, 24, [AV.nils]⟩ := by kernel_rfl
theorem ti69 : mkTI Try.prog 69 = ⟨TK.struct [(0, 3), (1, 68)], 2, 32, [AV.d (D.int .i64 0), AV.nils]⟩ := by kernel_rfl
theorem ti70 : mkTI Try.prog 70 = ⟨TK.struct [(0, 3), (1, 68)], 2, 32, [AV.d (D.int .i64 0), AV.nils]⟩ := by kernel_rfl
theorem ti72 : mkTI Try.prog 72 = ⟨TK.fn, 1, 8, [AV.any]⟩ := by kernel_rfl
theorem ti73 : mkTI Try.prog 73 = ⟨TK.struct [(0, 3), (1, 3)], 2, 16, [AV.d (D.int .i64 0), AV.d (D.int .i64 0)]⟩ := by kernel_rfl
theorem ti74 : mkTI Try.prog 74 = ⟨TK.struct [(0, 3), (1, 3)], 2, 16, [AV.d (D.int .i64 0), AV.d (D.int .i64 0)]⟩ := by kernel_rfl
theorem ti75 : mkTI Try.prog 75 = ⟨TK.fn, 1, 8, [AV.any]⟩ := by kernel_rfl
theorem ti76 : mkTI Try.prog 76 = ⟨TK.struct [(0, 22), (1, 3)], 2, 32, [AV.nils, AV.d (D.int .i64 0)]⟩ := by kernel_rfl
theorem ti77 : mkTI Try.prog 77 = ⟨TK.struct [(0, 22), (1, 3)], 2, 32, [AV.nils, AV.d (D.int .i64 0)]⟩ := by kernel_rfl
theorem ti78 : mkTI Try.prog 78 = ⟨TK.fn, 1, 8, [AV.any]⟩ := by kernel_rfl
theorem ti79 : mkTI Try.prog 79 = ⟨TK.fn, 1, 8, [AV.any]⟩ := by kernel_rfl
theorem ti80 : mkTI Try.prog 80 = ⟨TK.fn, 1, 8, [AV.any]⟩ := by kernel_rfl
theorem ti81 : mkTI Try.prog 81 = ⟨TK.fn, 1, 8, [AV.any]⟩ := by kernel_rfl
theorem ti82 : mkTI Try.prog 82 = ⟨TK.fn, 1, 8, [AV.any]⟩ := by kernel_rfl
theorem ti83 : mkTI Try.prog 83 = ⟨TK.fn, 1, 8, [AV.any]⟩ := by kernel_rfl
theorem ti84 : mkTI Try.prog 84 = ⟨TK.fn, 1, 8, [AV.any]⟩ := by kernel_rfl
theorem ti85 : mkTI Try.prog 85 = ⟨TK.struct [(0, 3), (1, 3), (2, 3), (3, 3), (4, 3), (5, 3), (6, 3)], 7, 56, [AV.d (D.int .i64 0), AV.d (D.int .i64 0), AV.d (D.int .i64 0), AV.d (D.int .i64 0), AV.d (D.int .i64 0), AV.d (D.int .i64 0), AV.d (D.int .i64 0)]⟩ := by kernel_rfl
theorem ti86 : mkTI Try.prog 86 = ⟨TK.struct [(0, 3), (1, 3), (2, 3), (3, 3), (4, 3), (5, 3), (6, 3)], 7, 56, [AV.d (D.int .i64 0), AV.d (D.int .i64 0), AV.d (D.int .i64 0), AV.d (D.int .i64 0), AV.d (D.int .i64 0), AV.d (D.int .i64 0), AV.d (D.int .i64 0)]⟩ := by kernel_rfl
theorem ti87 : mkTI Try.prog 87 = ⟨TK.fn, 1, 8, [AV.any]⟩ := by kernel_rfl
theorem ti89 : mkTI Try.prog 89 = ⟨TK.fn, 1, 8, [AV.any]⟩ := by kernel_rfl
theorem ti91 : mkTI Try.prog 91 = ⟨TK.fn, 1, 8, [AV.any]⟩ := by kernel_rfl
theorem ti92 : mkTI Try.prog 92 = ⟨TK.fn, 1, 8, [AV.any]⟩ := by kernel_rfl
theorem ti93 : mkTI Try.prog 93 = ⟨TK.fn, 1, 8, [AV.any]⟩ := by kernel_rfl
theorem ti94 : mkTI Try.prog 94 = ⟨TK.fn, 1, 8, [AV.any]⟩ := by kernel_rfl
theorem ti95 : mkTI Try.prog 95 = ⟨TK.fn, 1, 8, [AV.any]⟩ := by kernel_rfl
theorem ti96 : mkTI Try.prog 96 = ⟨TK.struct [(0, 3), (1, 3), (2, 3), (3, 3), (4, 3), (5, 3)], 6, 48, [AV.d (D.int .i64 0), AV.d (D.int .i64 0), AV.d (D.int .i64 0), AV.d (D.int .i64 0), AV.d (D.int .i64 0), AV.d (D.int .i64 0)]⟩ := by kernel_rfl
theorem ti97 : mkTI Try.prog 97 = ⟨TK.struct [(0, 3), (1, 3), (2, 3), (3, 3), (4, 3), (5, 3)], 6, 48, [AV.d (D.int .i64 0), AV.d (D.int .i64 0), AV.d (D.int .i64 0), AV.d (D.int .i64 0), AV.d (D.int .i64 0), AV.d (D.int .i64 0)]⟩ := by kernel_rfl
theorem ti98 : mkTI Try.prog 98 = ⟨TK.fn, 1, 8, [AV.any]⟩ := by kernel_rfl
theorem ti99 : mkTI Try.prog 99 = ⟨TK.slice 9, 1, 24, [AV.nils]⟩ := by kernel_rfl
theorem ti100 : mkTI Try.prog 100 = ⟨TK.fn, 1, 8, [AV.any]⟩ := by kernel_rfl
theorem ti101 : mkTI Try.prog 101 = ⟨TK.fn, 1, 8, [AV.any]⟩ := by kernel_rfl
theorem ti103 : mkTI Try.prog 103 = ⟨TK.fn, 1, 8, [AV.any]⟩ := by kernel_rfl
theorem ti105 : mkTI Try.prog 105 = ⟨TK.fn, 1, 8, [AV.any]⟩ := by kernel_rfl
theorem ti106 : mkTI Try.prog 106 = ⟨TK.fn, 1, 8, [AV.any]⟩ := by kernel_rfl
theorem ti107 : mkTI Try.prog 107 = ⟨TK.fn, 1, 8, [AV.any]⟩ := by kernel_rfl
theorem ti108 : mkTI Try.prog 108 = ⟨TK.slice 5, 1, 24, [AV.nils]⟩ := by kernel_rfl
theorem ti109 : mkTI Try.prog 109 = ⟨TK.fn, 1, 8, [AV.any]⟩ := by kernel_rfl
theorem ti110 : mkTI Try.prog 110 = ⟨TK.fn, 1, 8, [AV.any]⟩ := by kernel_rfl
theorem ti111 : mkTI Try.prog 111 = ⟨TK.fn, 1, 8, [AV.any]⟩ := by kernel_rfl
theorem ti112 : mkTI Try.prog 112 = ⟨TK.fn, 1, 8, [AV.any]⟩ := by kernel_rfl
theorem ti113 : mkTI Try.prog 113 = ⟨TK.fn, 1, 8, [AV.any]⟩ := by kernel_rfl
theorem ti114 : mkTI Try.prog 114 = ⟨TK.fn, 1, 8, [AV.any]⟩ := by kernel_rfl
theorem ti115 : mkTI Try.prog 115 = ⟨TK.int .u32, 1, 4, [AV.d (D.int .u32 0)]⟩ := by kernel_rfl
theorem ti117 : mkTI Try.prog 117 = ⟨TK.fn, 1, 8, [AV.any]⟩ := by kernel_rfl
theorem ti118 : mkTI Try.prog 118 = ⟨TK.int .u64, 1, 8, [AV.d (D.int .u64 0)]⟩ := by kernel_rfl
theorem ti120 : mkTI Try.prog 120 = ⟨TK.fn, 1, 8, [AV.any]⟩ := by kernel_rfl
theorem ti121 : mkTI Try.prog 121 = ⟨TK.slice 4, 1, 24, [AV.nils]⟩ := by kernel_rfl
theorem ti122 : mkTI Try.prog 122 = ⟨TK.fn, 1, 8, [AV.any]⟩ := by kernel_rfl
theorem ti123 : mkTI Try.prog 123 = ⟨TK.array 2 3, 2, 16, [AV.d (D.int .i64 0), AV.d (D.int .i64 0)]⟩ := by kernel_rfl
theorem ti124 : mkTI Try.prog 124 = ⟨TK.fn, 1, 8, [AV.any]⟩ := by kernel_rfl
theorem ti125 : mkTI Try.prog 125 = ⟨TK.fn, 1, 8, [AV.any]⟩ := by kernel_rfl
theorem ti126 : mkTI Try.prog 126 = ⟨TK.fn, 1, 8, [AV.any]⟩ := by kernel_rfl
theorem ti127 : mkTI Try.prog 127 = ⟨TK.fn, 1, 8, [AV.any]⟩ := by kernel_rfl
theorem ti128 : mkTI Try.prog 128 = ⟨TK.struct [(0, 17), (1, 17), (2, 17), (3, 9)], 4, 40, [AV.nilp, AV.nilp, AV.nilp, AV.d (D.str [])]⟩ := by kernel_rfl
theorem ti129 : mkTI Try.prog 129 = ⟨TK.struct [(0, 17), (1, 17), (2, 17), (3, 9)], 4, 40, [AV.nilp, AV.nilp, AV.nilp, AV.d (D.str [])]⟩ := by kernel_rfl
theorem ti130 : mkTI Try.prog 130 = ⟨TK.array 0 16, 0, 0, []⟩ := by kernel_rfl
theorem ti131 : mkTI Try.prog 131 = ⟨TK.struct [(0, 130)], 0, 0, []⟩ := by kernel_rfl
theorem ti132 : mkTI Try.prog 132 = ⟨TK.struct [(0, 130)], 0, 0, []⟩ := by kernel_rfl
theorem ti133 : mkTI Try.prog 133 = ⟨TK.int .u8, 1, 1, [AV.d (D.int .u8 0)]⟩ := by kernel_rfl
theorem ti134 : mkTI Try.prog 134 = ⟨TK.int .u8, 1, 1, [AV.d (D.int .u8 0)]⟩ := by kernel_rfl
theorem ti135 : mkTI Try.prog 135 = ⟨TK.fn, 1, 8, [AV.any]⟩ := by kernel_rfl
theorem ti136 : mkTI Try.prog 136 = ⟨TK.ptr 5, 1, 8, [AV.nilp]⟩ := by kernel_rfl
theorem ti137 : mkTI Try.prog 137 = ⟨TK.int .i32, 1, 4, [AV.d (D.int .i32 0)]⟩ := by kernel_rfl
theorem ti138 : mkTI Try.prog 138 = ⟨TK.int .i32, 1, 4, [AV.d (D.int .i32 0)]⟩ := by kernel_rfl
theorem ti139 : mkTI Try.prog 139 = ⟨TK.struct [(0, 12), (1, 12), (2, 115), (3, 133), (4, 5), (5, 5), (6, 134), (7, 135), (8, 136), (9, 137), (10, 138)], 11, 48, [AV.d (D.int .u64 0), AV.d (D.int .u64 0), AV.d (D.int .u32 0), AV.d (D.int .u8 0), AV.d (D.int .u8 0), AV.d (D.int .u8 0), AV.d (D.int .u8 0), AV.any, AV.nilp, AV.d (D.int .i32 0), AV.d (D.int .i32 0)]⟩ := by kernel_rfl
theorem ti140 : mkTI Try.prog 140 = ⟨TK.struct [(0, 12), (1, 12), (2, 115), (3, 133), (4, 5), (5, 5), (6, 134), (7, 135), (8, 136), (9, 137), (10, 138)], 11, 48, [AV.d (D.int .u64 0), AV.d (D.int .u64 0), AV.d (D.int .u32 0), AV.d (D.int .u8 0), AV.d (D.int .u8 0), AV.d (D.int .u8 0), AV.d (D.int .u8 0), AV.any, AV.nilp, AV.d (D.int .i32 0), AV.d (D.int .i32 0)]⟩ := by kernel_rfl
end Go.AX
set_option linter.unusedVariables false
set_option linter.unusedSimpArgs false
set_option maxRecDepth 20000
set_option maxHeartbeats 4000000
namespace Go.AX
open Go.Proofs
theorem mixed : Try.prog.follows .mixedOrders = true := by kernel_rfl
structure Row where
  Coefs : List Int
  Least : Int
  Most : Int
  deriving DecidableEq, Inhabited
def Row.D (x : Row) : List D := [.sl (List.map iD x.Coefs), .int .i64 x.Least, .int .i64 x.Most]
theorem Row.D_len (x : Row) : x.D.length = 3 := rfl
structure Node where
  Kind : Int
  Var : Int
  Zero : Int
  One : Int
  Row : Int
  Num : Int
  Den : Int
  deriving DecidableEq, Inhabited
def Node.D (x : Node) : List D := [.int .i64 x.Kind, .int .i64 x.Var, .int .i64 x.Zero, .int .i64 x.One, .int .i64 x.Row, .int .i64 x.Num, .int .i64 x.Den]
theorem Node.D_len (x : Node) : x.D.length = 7 := rfl
structure Part where
  Kind : Int
  Max : Int
  Topic : Int
  Objective : Int
  Options : Int
  Key : Int
  deriving DecidableEq, Inhabited
def Part.D (x : Part) : List D := [.int .i64 x.Kind, .int .i64 x.Max, .int .i64 x.Topic, .int .i64 x.Objective, .int .i64 x.Options, .int .i64 x.Key]
theorem Part.D_len (x : Part) : x.D.length = 6 := rfl
structure TItem where
  ID : Int
  Version : Int
  Stem : List UInt8
  Parts : List Part
  Enemies : List Int
  deriving DecidableEq, Inhabited
def TItem.D (x : TItem) : List D := [.int .i64 x.ID, .int .i64 x.Version, .str x.Stem, .sl (List.map Part.D x.Parts), .sl (List.map iD x.Enemies)]
theorem TItem.D_len (x : TItem) : x.D.length = 5 := rfl
structure Ref where
  ID : Int
  Version : Int
  deriving DecidableEq, Inhabited
def Ref.D (x : Ref) : List D := [.int .i64 x.ID, .int .i64 x.Version]
theorem Ref.D_len (x : Ref) : x.D.length = 2 := rfl
theorem zs_ : zv (Value.string { data := #[] }) = .d (.str []) := by rw [zv_str (by simp [LB])]
theorem zs_48_49_50_51_52_53_54_55_56_57_48_49_50_51_52_53_54_55_56_57_48_49_50_51_52_53_54_55_56_57_48_49_50_51_52_53_54_55_56_57_120 : zv (Value.string { data := #[48, 49, 50, 51, 52, 53, 54, 55, 56, 57, 48, 49, 50, 51, 52, 53, 54, 55, 56, 57, 48, 49, 50, 51, 52, 53, 54, 55, 56, 57, 48, 49, 50, 51, 52, 53, 54, 55, 56, 57, 120] }) = .d (.str [48, 49, 50, 51, 52, 53, 54, 55, 56, 57, 48, 49, 50, 51, 52, 53, 54, 55, 56, 57, 48, 49, 50, 51, 52, 53, 54, 55, 56, 57, 48, 49, 50, 51, 52, 53, 54, 55, 56, 57, 120]) := by rw [zv_str (by simp [LB])]
theorem zs_113 : zv (Value.string { data := #[113] }) = .d (.str [113]) := by rw [zv_str (by simp [LB])]
theorem zs_116_97_98_9 : zv (Value.string { data := #[116, 97, 98, 9] }) = .d (.str [116, 97, 98, 9]) := by rw [zv_str (by simp [LB])]
theorem eqf74_00 : eqFlat Try.prog 74 [0, 0] = true := by kernel_rfl

end Go.AX
