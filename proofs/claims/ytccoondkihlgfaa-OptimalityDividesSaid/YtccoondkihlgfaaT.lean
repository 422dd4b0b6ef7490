import Derived.Test.YtccoondkihlgfaaA2
import Derived.Test.YtccoondkihlgfaaProg
import Derived.KernelRfl
set_option linter.unusedVariables false
set_option linter.unusedSimpArgs false
set_option linter.unusedSectionVars false
namespace Go.AX

section
variable {σ ρ τ : Type}
def chk (p : Prop) [Decidable p] (k : Option ρ) : Option ρ := if p then k else none
def rd (l : List τ) (i : Int) : Option τ := if 0 ≤ i then l[i.toNat]? else none
def contO (s : σ) : Option (σ ⊕ ρ) := some (.inl s)
def exitO (r : Option ρ) : Option (σ ⊕ ρ) := r.map .inr
/-- Rounds of a loop. -/
def iterN (f : σ → Option (σ ⊕ ρ)) : Nat → σ → Option ρ
  | 0, _ => none
  | k + 1, s => match f s with
    | none => none
    | some (.inl s') => iterN f k s'
    | some (.inr r) => some r
open Classical in
noncomputable def iter (f : σ → Option (σ ⊕ ρ)) (s : σ) : Option ρ := if h : ∃ k, (iterN f k s).isSome then iterN f h.choose s else none

theorem iterN_det {f : σ → Option (σ ⊕ ρ)} : ∀ {k m : Nat} {s : σ} {r r' : ρ}, iterN f k s = some r → iterN f m s = some r' → r = r'
  | 0, _, _, _, _, h, _ => by simp [iterN] at h
  | _ + 1, 0, _, _, _, _, h => by simp [iterN] at h
  | k + 1, m + 1, s, r, r', h, h' => by
    simp only [iterN] at h h'
    cases hf : f s with
    | none => simp [hf] at h
    | some x =>
      cases x with
      | inl s' => simp only [hf] at h h'; exact iterN_det h h'
      | inr y => simp only [hf] at h h'; cases h; cases h'; rfl
theorem iter_iff {f : σ → Option (σ ⊕ ρ)} {s : σ} {r : ρ} : iter f s = some r ↔ ∃ k, iterN f k s = some r := by
  unfold iter
  constructor
  · intro h
    split at h
    · exact ⟨_, h⟩
    · cases h
  · rintro ⟨k, hk⟩
    have h : ∃ k, (iterN f k s).isSome := ⟨k, by simp [hk]⟩
    rw [dif_pos h]
    obtain ⟨r', hr'⟩ := Option.isSome_iff_exists.1 h.choose_spec
    rw [hr', iterN_det hr' hk]
theorem iter_cont {f : σ → Option (σ ⊕ ρ)} {s s' : σ} (h : f s = contO s') : iter f s = iter f s' := by
  apply Option.ext
  intro r
  rw [iter_iff, iter_iff]
  constructor
  · rintro ⟨k, hk⟩
    cases k with
    | zero => simp [iterN] at hk
    | succ k => simp only [iterN, h, contO] at hk; exact ⟨k, hk⟩
  · rintro ⟨k, hk⟩
    exact ⟨k + 1, by simp only [iterN, h, contO]; exact hk⟩
theorem iter_exit {f : σ → Option (σ ⊕ ρ)} {s : σ} {x : Option ρ} (h : f s = exitO x) : iter f s = x := by
  apply Option.ext
  intro r
  rw [iter_iff]
  constructor
  · rintro ⟨k, hk⟩
    cases k with
    | zero => simp [iterN] at hk
    | succ k =>
      simp only [iterN, h, exitO] at hk
      cases x with
      | none => simp at hk
      | some y => simpa using hk
  · rintro rfl
    exact ⟨1, by simp [iterN, h, exitO]⟩
theorem iter_none {f : σ → Option (σ ⊕ ρ)} {s : σ} (h : f s = none) : iter f s = none := by
  rw [Option.eq_none_iff_forall_ne_some]
  intro r hr
  obtain ⟨k, hk⟩ := iter_iff.1 hr
  cases k <;> simp [iterN, h] at hk
theorem iter_rec {f : σ → Option (σ ⊕ ρ)} {r : ρ} {W : σ → Prop} (step : ∀ s y, f s = some y → (∀ s', y = .inl s' → W s') → (∀ z, y = .inr z → z = r) → W s) :
    ∀ s, iter f s = some r → W s := by
  intro s h
  obtain ⟨k, hk⟩ := iter_iff.1 h
  clear h
  induction k generalizing s with
  | zero => simp [iterN] at hk
  | succ k ih =>
    simp only [iterN] at hk
    cases hf : f s with
    | none => simp [hf] at hk
    | some y =>
      refine step s y hf (fun s' e => ?_) (fun z e => ?_)
      · subst e; simp only [hf] at hk; exact ih s' hk
      · subst e; simp only [hf] at hk; cases hk; rfl

theorem chk_elim {p : Prop} [Decidable p] {k : Option ρ} {x : ρ} (h : chk p k = some x) : p ∧ k = some x := by
  unfold chk at h
  split at h
  · exact ⟨‹_›, h⟩
  · cases h
theorem bind_elim {a : Option τ} {K : τ → Option ρ} {x : ρ} (h : a.bind K = some x) : ∃ y, a = some y ∧ K y = some x := by
  cases a with
  | none => cases h
  | some y => exact ⟨y, rfl, h⟩
theorem rd_some {l : List τ} {i : Int} {y : τ} (h : rd l i = some y) : 0 ≤ i ∧ i < l.length ∧ l[i.toNat]? = some y := by
  unfold rd at h
  split at h
  · refine ⟨‹_›, ?_, h⟩
    obtain ⟨h1, _⟩ := List.getElem?_eq_some_iff.1 h
    omega
  · cases h
theorem rd_elim {l : List τ} {i : Int} {K : τ → Option ρ} {x : ρ} (h : (rd l i).bind K = some x) :
    ∃ y, rd l i = some y ∧ 0 ≤ i ∧ i < l.length ∧ (∀ (f : τ → List D) (j : Nat), j = i.toNat → (l.map f).getD j [] = f y) ∧ K y = some x := by
  obtain ⟨y, hy, hx⟩ := bind_elim h
  obtain ⟨h1, h2, h3⟩ := rd_some hy
  refine ⟨y, hy, h1, h2, fun f j hj => ?_, hx⟩
  subst hj
  simp [List.getD_eq_getElem?_getD, h3]
theorem exit_elim {r : Option ρ} {y : σ ⊕ ρ} (h : exitO r = some y) : ∃ z, y = .inr z ∧ r = some z := by
  unfold exitO at h
  cases r with
  | none => cases h
  | some z => simp at h; exact ⟨z, h.symm, rfl⟩
theorem cont_elim {s : σ} {y : σ ⊕ ρ} (h : contO s = some y) : y = .inl s := by
  unfold contO at h
  cases h; rfl
end

section
variable {P : Program} {n nb : Nat} {R : St → Prop} {s : St} {k : List Item} {σ ρ : Type}
theorem Walk.iter {c : Code} (S : σ → St) (f : σ → Option (σ ⊕ ρ)) (r : ρ)
    (step : ∀ g y, f g = some y → (∀ g', y = .inl g' → Walk P n nb (.inLoop c :: k) R (S g')) → (∀ z, y = .inr z → z = r) → Walk P n nb (.code c :: .inLoop c :: k) R (S g)) :
    ∀ g, AX.iter f g = some r → Walk P n nb (.inLoop c :: k) R (S g) :=
  iter_rec (W := fun g => Walk P n nb (.inLoop c :: k) R (S g)) fun g y h1 h2 h3 => .inLoop (step g y h1 h2 h3)
theorem Walk.condT {c : Operand} {x y : Code} (hc : evalA (eget s.e) c = .d (.bool true)) (h : Walk P n nb (.code x :: k) R s) : Walk P n nb (.code (.cond c x y) :: k) R s :=
  .cond hc (fun _ => h) (fun h => by cases h)
theorem Walk.condF {c : Operand} {x y : Code} (hc : evalA (eget s.e) c = .d (.bool false)) (h : Walk P n nb (.code y :: k) R s) : Walk P n nb (.code (.cond c x y) :: k) R s :=
  .cond hc (fun h => by cases h) (fun _ => h)
theorem Walk.condO {c : Operand} {a b : Code} {t : Bool} {A B : Option ρ} {x : ρ} (hc : evalA (eget s.e) c = .d (.bool t)) (hx : (bif t then A else B) = some x)
    (ht : t = true → A = some x → Walk P n nb (.code a :: k) R s) (hf : t = false → B = some x → Walk P n nb (.code b :: k) R s) : Walk P n nb (.code (.cond c a b) :: k) R s :=
  .cond hc (fun h => ht h (by subst h; exact hx)) (fun h => hf h (by subst h; exact hx))
theorem VGdO {full : List Oper} {o : Oper} {w : Bool} {r : List Oper} {lg : Log} {K : Log → St → Prop} {t : Bool} {A B : Option ρ} {x : ρ} (hx : (bif t then A else B) = some x)
    (ht : t = true → A = some x → VGd P n nb full o w r s lg K (.d (.bool true))) (hf : t = false → B = some x → VGd P n nb full o w r s lg K (.d (.bool false))) :
    VGd P n nb full o w r s lg K (.d (.bool t)) :=
  VGd_cases (fun h => ht h (by subst h; exact hx)) (fun h => hf h (by subst h; exact hx))
/-- Ways that come together. -/
theorem Walk.join {c : Code} {G : Type} (S : G → St) (J : G → Option ρ) {x : ρ} {E : Option ρ} (_ : E = some x) (h1 : ∀ g, J g = some x → Walk P n nb k R (S g))
    (h2 : (∀ g, J g = some x → Walk P n nb k R (S g)) → Walk P n nb (.code c :: k) R s) : Walk P n nb (.code c :: k) R s := h2 h1

theorem CfgF.rename {A β E H a w} (h : CfgF n A β E H a w) {id nm : Nat} (hn : Fresh nm E H) :
    CfgF n A (fun i => β (swp id nm i)) (fun t => (E t).ren (swp id nm)) (renH (swp id nm) H) a w ∧ Trans w A β H w A (fun i => β (swp id nm i)) (renH (swp id nm) H) := by
  have hπ := swp_swp id nm
  refine ⟨⟨h.size, h.defers, fun t => (RepV.ren hπ (E t) _).2 (h.env t), (HRel.ren hπ).2 h.heap⟩, Nat.le_refl _, rfl, rfl, rfl, fun _ _ _ => rfl, fun _ h => h, fun _ h => .inl h, fun i b hi hb => .inr ⟨swp id nm i, (renH_none hπ).1 hi, hb⟩, fun i o o' ho ho' => ?_⟩
  simp only [renH, Option.map_eq_some_iff] at ho'
  obtain ⟨o1, h1, rfl⟩ := ho'
  by_cases e1 : i = id
  · subst e1
    by_cases e2 : i = nm
    · subst e2
      simp only [swp, if_true] at h1
      rw [ho] at h1; cases h1
      cases o with
      | box cs => simp only [AObj.ren, Keep, swp, if_true]
      | arr T sz es => exact ⟨rfl, rfl, Nat.le_refl _, fun _ => ⟨by simp [swp], fun _ _ => rfl⟩⟩
    · simp only [swp, if_true] at h1
      rw [hn.1] at h1; cases h1
  · by_cases e2 : i = nm
    · subst e2; rw [hn.1] at ho; cases ho
    · simp only [swp, e1, e2, if_false] at h1
      rw [ho] at h1; cases h1
      cases o with
      | box cs => simp only [AObj.ren, Keep, swp, e1, e2, if_false]
      | arr T sz es => exact ⟨rfl, rfl, Nat.le_refl _, fun _ => ⟨by simp [swp, e1, e2], fun _ _ => rfl⟩⟩
def renE (π : Nat → Nat) : EL → EL
  | [] => []
  | (t, x) :: r => (t, x.ren π) :: renE π r
theorem eget_renE (π : Nat → Nat) : ∀ (e : EL) (t : Nat), eget (renE π e) t = (eget e t).ren π
  | [], t => by simp [renE, eget, AV.ren]
  | (j, x) :: r, t => by
    simp only [renE, eget]
    split
    · rfl
    · exact eget_renE π r t
theorem Walk.rename (id nm : Nat) (hnb : nb ≤ nm) (hid : nb ≤ id) (f1 : freshE nm s.e) (f2 : freshH nm s.h) (h : Walk P n nb k R ⟨renE (swp id nm) s.e, renL (swp id nm) s.h⟩) : Walk P n nb k R s := by
  have hfr : Fresh nm (eget s.e) (hget s.h) := fresh_of f1 f2
  refine h.ghost _ (fun A β a w hc => ?_) fun i hn hs => ?_
  · obtain ⟨g1, g2⟩ := hc.rename (id := id) hfr
    rw [hget_renL (swp_swp id nm)]
    have e : (fun t => (eget s.e t).ren (swp id nm)) = eget (renE (swp id nm) s.e) := by funext t; rw [eget_renE]
    rw [e] at g1
    exact ⟨A, _, g1, g2⟩
  · rw [hget_renL (swp_swp id nm)] at hs
    rw [renH_none (swp_swp id nm)] at hs
    by_cases e1 : i = id
    · omega
    · by_cases e2 : i = nm
      · omega
      · simp only [swp, e1, e2, if_false] at hs; exact absurd hn hs

def nlV (x x' : AV) : Prop := x = x' ∨ (x = .nils ∧ x' = .d (.sl []))
def nlVs : List AV → List AV → Prop
  | [], [] => True
  | x :: r, x' :: r' => nlV x x' ∧ nlVs r r'
  | _, _ => False
def nlE (E : EF) : EL → Prop
  | [] => True
  | (t, x) :: r => nlV (E t) x ∧ nlE E r
def nlO : Option AObj → Option AObj → Prop
  | some (.box cs), some (.box cs') => nlVs cs cs'
  | o, o' => o = o'
def nlH (H : HF) : HL → Prop
  | [] => True
  | (i, o) :: r => nlO (H i) o ∧ nlH H r
theorem nlV_refl (x : AV) : nlV x x = True := by simp [nlV]
theorem nlV_nil : nlV .nils (.d (.sl [])) = True := by simp [nlV]
theorem nlVs_refl : ∀ cs : List AV, nlVs cs cs
  | [] => trivial
  | x :: r => ⟨.inl rfl, nlVs_refl r⟩
theorem nlO_refl (o : Option AObj) : nlO o o = True := by
  cases o with
  | none => simp [nlO]
  | some o => cases o with
    | box cs => simp [nlO, nlVs_refl]
    | arr _ _ _ => simp [nlO]
theorem nlO_box (cs cs' : List AV) : nlO (some (.box cs)) (some (.box cs')) = nlVs cs cs' := rfl
theorem nlV_rep {w A β H} {x x' : AV} (h : nlV x x') {v} (hv : RepV w A β H x v) : RepV w A β H x' v := by
  rcases h with rfl | ⟨rfl, rfl⟩
  · exact hv
  · simp only [RepV] at hv
    obtain ⟨a, rfl⟩ := hv
    simp only [RepV, RepD]
    exact ⟨a, 0, by simp, by simp, trivial, by simp⟩
theorem nlVs_rep {w A β H} : ∀ {x x' : List AV}, nlVs x x' → ∀ {v}, RepVs w A β H x v → RepVs w A β H x' v
  | [], [], _, v, hv => hv
  | x :: r, x' :: r', h, v, hv => by
    simp only [RepVs] at hv ⊢
    obtain ⟨v, t, rfl, h1, h2⟩ := hv
    exact ⟨v, t, rfl, nlV_rep h.1 h1, nlVs_rep h.2 h2⟩
  | [], _ :: _, h, _, _ => by simp only [nlVs] at h
  | _ :: _, [], h, _, _ => by simp only [nlVs] at h
theorem nlE_get {E} : ∀ {e : EL}, nlE E e → ∀ t, eget e t = .any ∨ nlV (E t) (eget e t)
  | [], _, t => .inl rfl
  | (j, x) :: r, h, t => by
    simp only [eget]
    split
    · rename_i e; subst e; exact .inr h.1
    · exact nlE_get h.2 t
theorem nlH_get {H} : ∀ {h : HL}, nlH H h → ∀ i, hget h i = none ∨ nlO (H i) (hget h i)
  | [], _, i => .inl rfl
  | (j, x) :: r, h, i => by
    simp only [hget]
    split
    · rename_i e; subst e; exact .inr h.1
    · exact nlH_get h.2 i
theorem Walk.nil2d (e' : EL) (h' : HL) (hE : nlE (eget s.e) e') (hH : nlH (hget s.h) h') (h : Walk P n nb k R ⟨e', h'⟩) : Walk P n nb k R s := by
  have hsome : ∀ i o', hget h' i = some o' → ∃ o, hget s.h i = some o := fun i o' ho' => by
    rcases nlH_get hH i with h3 | h3
    · rw [h3] at ho'; cases ho'
    · rw [ho'] at h3
      cases ho : hget s.h i with
      | none => rw [ho] at h3; simp [nlO] at h3
      | some o => exact ⟨o, rfl⟩
  refine h.ghost _ (fun A β a w hc => ?_) fun i hn hs => ?_
  · obtain ⟨g3, g4⟩ := hc.recast hc (E' := eget e') (H2 := hget h') (fun t v hv => by
        rcases nlE_get hE t with h3 | h3
        · rw [h3]; simp only [RepV]
        · exact nlV_rep h3 hv)
      (fun i cs' hi => by
        rcases nlH_get hH i with h3 | h3
        · rw [h3] at hi; cases hi
        · rw [hi] at h3
          cases ho : hget s.h i with
          | none => rw [ho] at h3; simp [nlO] at h3
          | some o =>
            rw [ho] at h3
            cases o with
            | arr _ _ _ => simp [nlO] at h3
            | box cs =>
              simp only [nlO] at h3
              exact ⟨cs, rfl, rfl, rfl, fun vs hvs => nlVs_rep h3 hvs⟩)
      (fun i T' sz' es' hi => by
        rcases nlH_get hH i with h3 | h3
        · rw [h3] at hi; cases hi
        · rw [hi] at h3
          cases ho : hget s.h i with
          | none => rw [ho] at h3; simp [nlO] at h3
          | some o =>
            rw [ho] at h3
            cases o with
            | arr _ _ _ => simpa [nlO] using h3
            | box cs => simp [nlO] at h3)
    refine ⟨A, β, g3, ⟨g4.size, g4.os, g4.tape, g4.output, g4.same, g4.mono, g4.new, g4.own, g4.keep⟩⟩
  · cases ho : hget h' i with
    | none => exact absurd ho hs
    | some o' => obtain ⟨o, h3⟩ := hsome i o' ho; rw [hn] at h3; cases h3
end

def iD (n : Int) : List D := [.int .i64 n]
def uD (n : Int) : List D := [.int .u8 n]
def bD (b : Bool) : List D := [.bool b]
def tD (s : List UInt8) : List D := [.str s]
def lD {τ : Type} (f : τ → List D) (l : List τ) : List D := [.sl (l.map f)]
theorem map_take' {τ : Type} (f : τ → List D) (l : List τ) (n : Nat) : (l.map f).take n = (l.take n).map f := List.map_take.symm
theorem map_drop' {τ : Type} (f : τ → List D) (l : List τ) (n : Nat) : (l.map f).drop n = (l.drop n).map f := List.map_drop.symm
theorem take_map_len {τ : Type} (f : τ → List D) (l : List τ) : (l.map f).take l.length = l.map f := by rw [← List.map_take, List.take_length]
theorem head_len {τ : Type} {f : τ → List D} {l : List τ} {m : Nat} (hf : ∀ x, (f x).length = m) : (∀ e ∈ (l.map f).head?, e.length = m) = True := by
  simp only [eq_iff_iff, iff_true]
  intro e he
  cases l with
  | nil => simp at he
  | cons x r => simp at he; subst he; exact hf x
theorem all_len {τ : Type} {f : τ → List D} {l : List τ} {m : Nat} (hf : ∀ x, (f x).length = m) : (∀ e ∈ l.map f, e.length = m) = True := by
  simp only [eq_iff_iff, iff_true]
  intro e he
  obtain ⟨x, _, rfl⟩ := List.mem_map.1 he
  exact hf x
theorem map_bcell (l : List Int) : l.map bcell = l.map uD := rfl
theorem zv_str {l : List UInt8} (h : l.length ≤ LB) : zv (.string ⟨l.toArray⟩) = .d (.str l) := by
  unfold zv; simp [h]
theorem bytes_all (l : List Int) : (∀ e ∈ l.map uD, isByte e) = True := by
  simp only [eq_iff_iff, iff_true]
  intro e he
  obtain ⟨n, _, rfl⟩ := List.mem_map.1 he
  rfl
def strL (l : List Int) : List UInt8 := l.map fun n => UInt8.ofNat n.toNat
theorem str_map (l : List Int) : (l.map uD).map byteOf = strL l := by simp [strL, uD, byteOf]
theorem iD_len (x) : (iD x).length = 1 := rfl
theorem uD_len (x) : (uD x).length = 1 := rfl
theorem bD_len (x) : (bD x).length = 1 := rfl
theorem tD_len (x) : (tD x).length = 1 := rfl
theorem lD_len {τ : Type} (f : τ → List D) (x) : (lD f x).length = 1 := rfl
end Go.AX
namespace Go.AX
theorem ACalls.of_cellS {P : Program} {f : FuncId} {args : List AV} {h : HL} {r : AV} {h' : HL} {fn : Func} {c : Code} {n : Nat} (nb : Nat) (x t : Nat) (hf : P.funcs[f]? = some fn) (hb : fn.body = some c)
    (hn : (fn.name == "runtime.NumGoroutine") = false) (hr : fn.results = #[.cell x t]) (hnt : fn.ntmps = n) (hsz : args.length ≤ n) (hnb : ∀ i, hget h i ≠ none → i < nb)
    (hs : Walk P n nb [.code c] (fun s' => ∃ id o, eget s'.e x = .box id o ∧ (aLoad P t (.box id o) (hget s'.h)).pre ∧ (aLoad P t (.box id o) (hget s'.h)).res = r ∧ subH (hget s'.h) h') ⟨argE 0 args, h⟩) : ACalls P f args h r h' := by
  obtain ⟨r0, h0, ⟨rfl, rfl⟩, hc⟩ := ACalls.of_cell (fun a b => a = r ∧ b = h') nb x t hf hb hn hr hnt hsz hnb (hs.mono fun s' ⟨id, o, h1, h2, h3, h4⟩ => ⟨id, o, h1, h2, h', h4, h3, rfl⟩)
  exact hc
end Go.AX
set_option linter.unusedVariables false
set_option linter.unusedSimpArgs false
namespace Go.AX
end Go.AX
namespace Go.AX
def iA (x : Int) : AV := .d (.int .i64 x)
def bA (x : Bool) : AV := .d (.bool x)
theorem map_iA (l : List Int) : List.map iA l = List.map AV.d (List.map (D.int .i64) l) := by simp [iA, Function.comp_def]
theorem map_bA (l : List Bool) : List.map bA l = List.map AV.d (List.map D.bool l) := by simp [bA, Function.comp_def]
theorem rep_flat (m : Nat) (x : D) : (List.replicate m [x]).flatten = List.replicate m x := by
  induction m with
  | zero => rfl
  | succ m ih => simp only [List.replicate_succ, List.flatten_cons, ih]; rfl
theorem mkbox_i (m : Nat) (x : Int) : List.map AV.d (List.replicate m [D.int .i64 x]).flatten = List.map iA (List.replicate m x) := by rw [rep_flat]; simp [iA]
theorem mkbox_b (m : Nat) (x : Bool) : List.map AV.d (List.replicate m [D.bool x]).flatten = List.map bA (List.replicate m x) := by rw [rep_flat]; simp [bA]
theorem flat_iD (l : List Int) : List.map AV.d (List.map (fun x => [D.int .i64 x]) l).flatten = List.map iA l := by
  induction l with
  | nil => rfl
  | cons x r ih => simp only [List.map_cons, List.flatten_cons, List.map_append, ih]; rfl
theorem dataL_iA : ∀ l : List Int, dataL (List.map iA l) = True
  | [] => by simp [dataL]
  | x :: r => by simp only [List.map_cons, iA, dataL]; exact dataL_iA r
theorem dataL_bA : ∀ l : List Bool, dataL (List.map bA l) = True
  | [] => by simp [dataL]
  | x :: r => by simp only [List.map_cons, bA, dataL]; exact dataL_bA r
theorem one_iD (l : List Int) : List.map (fun d => [d]) (List.map (D.int .i64) l) = List.map iD l := by simp [iD, Function.comp_def]
theorem one_bD (l : List Bool) : List.map (fun d => [d]) (List.map D.bool l) = List.map bD l := by simp [bD, Function.comp_def]
theorem zv_u64 {x : Int} (h : 0 ≤ x ∧ x ≤ 18446744073709551615) : zv (.int .u64 x) = .d (.int .u64 x) := by
  show (if IntKind.u64.min ≤ x ∧ x ≤ IntKind.u64.max then AV.d (.int .u64 x) else .any) = _
  rw [show IntKind.u64.min = 0 from by decide, show IntKind.u64.max = 18446744073709551615 from by decide, if_pos h]
theorem flat_iD' (l : List Int) : List.map AV.d (List.map iD l).flatten = List.map iA l := flat_iD l
theorem flat_len (l : List Int) : (List.map iD l).flatten.length = l.length := by
  induction l with
  | nil => rfl
  | cons x r ih => simp only [List.map_cons, List.flatten_cons, List.length_append, ih, List.length_cons, iD, List.length_nil]; omega
theorem dataL_take (n : Nat) : ∀ l : List AV, dataL l → dataL (l.take n) := by
  intro l
  induction l generalizing n with
  | nil => intro _; simp [dataL]
  | cons x r ih =>
    intro h
    cases n with
    | zero => simp [dataL]
    | succ n =>
      cases x <;> first | exact h.elim | exact ih n h
theorem dataL_tA (n : Nat) (l : List Int) : dataL (List.take n (List.map iA l)) = True := eq_true (dataL_take n _ (by rw [dataL_iA]; trivial))
theorem dataL_ttA (n m : Nat) (l : List Int) : dataL (List.take n (List.take m (List.map iA l))) = True := eq_true (dataL_take n _ (by rw [dataL_tA]; trivial))
theorem spl_mt {τ τ' : Type} (f : τ → τ') (a b : List τ) (o n : Nat) : spl (a.map f) o ((b.map f).take n) = (spl a o (b.take n)).map f := by
  rw [← List.map_take, spl_map]
theorem spl_mtt {τ τ' : Type} (f : τ → τ') (a b : List τ) (o n m : Nat) : spl (a.map f) o (((b.map f).take m).take n) = (spl a o ((b.take m).take n)).map f := by
  rw [← List.map_take, ← List.map_take, spl_map]
theorem take_snoc {τ τ' : Type} (f : τ → τ') (l : List τ) (x : τ') : List.take (l.length + 1) (List.map f l ++ [x]) = List.map f l ++ [x] := by
  rw [List.take_of_length_le]; simp
def sA {τ : Type} (f : τ → List D) (l : List τ) : AV := .d (.sl (l.map f))
theorem sA_def {τ : Type} (f : τ → List D) (l : List τ) : sA f l = .d (.sl (l.map f)) := rfl
theorem mkbox_s (m : Nat) : List.map AV.d (List.replicate m [D.sl []]).flatten = List.replicate m (AV.d (.sl [])) := by rw [rep_flat]; simp
theorem hd_set {α : Type} {l : List α} {k : Nat} {x d : α} (h : k < l.length) : ((l.set k x).drop k).headD d = x := by
  have : (l.set k x).drop k = x :: l.drop (k + 1) := by
    rw [List.drop_eq_getElem_cons (by simpa using h)]
    simp [List.drop_set_of_lt]
  rw [this]; rfl
theorem splice_one {α : Type} {l : List α} {k : Nat} {x : α} (h : k < l.length) : splice l k [x] = l.set k x := by
  unfold splice
  rw [List.set_eq_take_append_cons_drop, if_pos h]; simp
theorem rdA_elim {τ ρ : Type} {l : List τ} {i : Int} {K : τ → Option ρ} {x : ρ} (h : (rd l i).bind K = some x) :
    ∃ y, rd l i = some y ∧ 0 ≤ i ∧ i < l.length ∧ (∀ (f : τ → List D) (j : Nat), j = i.toNat → (l.map f).getD j [] = f y) ∧ i.toNat < l.length ∧
      (∀ f : τ → AV, ((l.map f).drop i.toNat).headD .any = f y) ∧ (∀ f : τ → AV, ((l.drop i.toNat).map f).headD .any = f y) ∧ K y = some x := by
  obtain ⟨y, hy, h1, h2, h3, hx⟩ := rd_elim h
  have hlt : i.toNat < l.length := by omega
  have hg : l[i.toNat]? = some y := (rd_some hy).2.2
  have e : ∀ f : τ → AV, ((l.drop i.toNat).map f).headD .any = f y := fun f => by
    rw [List.drop_eq_getElem_cons hlt]
    rw [List.getElem?_eq_getElem hlt] at hg
    cases hg
    rfl
  exact ⟨y, hy, h1, h2, h3, hlt, fun f => by rw [← List.map_drop]; exact e f, e, hx⟩
theorem frVs_setS {id : Nat} {es : List (List D)} {x x' : AV} (hx : frV id es x x') {cs : List AV} {i : Nat} : frVs id es (cs.set i x) (cs.set i x') = True := eq_true (frVs_set id es x x' hx cs i)
theorem frVs_self (id : Nat) (es : List (List D)) (cs : List AV) : frVs id es cs cs = True := eq_true (frVs_refl id es cs)
theorem idsL_iA : ∀ l : List Int, AV.idsL (l.map iA) = []
  | [] => rfl
  | x :: r => by simp only [List.map_cons, AV.idsL, iA, AV.ids, idsL_iA r, List.append_nil]
theorem idsL_bA : ∀ l : List Bool, AV.idsL (l.map bA) = []
  | [] => rfl
  | x :: r => by simp only [List.map_cons, AV.idsL, bA, AV.ids, idsL_bA r, List.append_nil]
theorem idsL_sA {τ : Type} (f : τ → List D) : ∀ l : List (List τ), AV.idsL (l.map (sA f)) = []
  | [] => rfl
  | x :: r => by simp only [List.map_cons, AV.idsL, sA, AV.ids, idsL_sA f r, List.append_nil]
theorem idsL_set_mem {nm k : Nat} {cs : List AV} {x : AV} (h1 : nm ∉ AV.idsL cs) (h2 : nm ∉ x.ids) : (nm ∈ AV.idsL (cs.set k x)) = False := by
  simp only [eq_iff_iff, iff_false]
  induction cs generalizing k with
  | nil => exact h1
  | cons c r ih =>
    simp only [AV.idsL, List.mem_append, not_or] at h1
    cases k with
    | zero => simp only [List.set_cons_zero, AV.idsL, List.mem_append, not_or]; exact ⟨h2, h1.2⟩
    | succ k => simp only [List.set_cons_succ, AV.idsL, List.mem_append, not_or]; exact ⟨h1.1, ih h1.2⟩
theorem idsL_setE {k : Nat} {cs : List AV} {x : AV} (h1 : AV.idsL cs = []) (h : k < cs.length) : AV.idsL (cs.set k x) = x.ids := by
  induction cs generalizing k with
  | nil => simp at h
  | cons c r ih =>
    simp only [AV.idsL, List.append_eq_nil_iff] at h1
    cases k with
    | zero => simp only [List.set_cons_zero, AV.idsL, h1.2, List.append_nil]
    | succ k => simp only [List.set_cons_succ, AV.idsL, h1.1, List.nil_append]; exact ih h1.2 (by simpa using h)
theorem idsL_sub {k : Nat} {cs : List AV} {x : AV} {l : List Nat} (h1 : AV.idsL cs = []) (h2 : ∀ i ∈ x.ids, i ∈ l) : (∀ j ∈ AV.idsL (cs.set k x), j ∈ l) = True := by
  refine eq_true ?_
  induction cs generalizing k with
  | nil => simp [AV.idsL]
  | cons c r ih =>
    simp only [AV.idsL, List.append_eq_nil_iff] at h1
    cases k with
    | zero => simp only [List.set_cons_zero, AV.idsL, h1.2, List.append_nil]; exact h2
    | succ k => simp only [List.set_cons_succ, AV.idsL, h1.1, List.nil_append]; exact ih h1.2
def slD {τ : Type} (f : τ → List D) (l : List τ) : D := .sl (l.map f)
theorem map_sA {τ : Type} (f : τ → List D) (l : List (List τ)) : List.map (sA f) l = List.map AV.d (List.map (slD f) l) := by simp [sA, slD, Function.comp_def]
theorem one_slD {τ : Type} (f : τ → List D) (l : List (List τ)) : List.map (fun d => [d]) (List.map (slD f) l) = List.map (lD f) l := by simp [slD, lD, Function.comp_def]
theorem idsL_rep (n : Nat) (x : D) : AV.idsL (List.replicate n (.d x)) = [] := by
  induction n with
  | zero => rfl
  | succ n ih => simp only [List.replicate_succ, AV.idsL, AV.ids, ih, List.append_nil]
end Go.AX
namespace Go.AX
theorem take_set_len {τ : Type} (f : τ → List D) (l : List τ) (k : Nat) (x : List D) : List.take l.length ((l.map f).set k x) = (l.map f).set k x := by rw [List.take_of_length_le]; simp
end Go.AX
namespace Go.AX
theorem take_cons_drop {α : Type} {l : List α} {k : Nat} {x : α} (h : k < l.length) : List.take k l ++ x :: List.drop (k + 1) l = l.set k x := by
  rw [List.set_eq_take_append_cons_drop, if_pos h]
theorem cons_rep {α : Type} {n : Nat} {a x : α} (h : 0 < n) : x :: List.replicate (n - 1) a = (List.replicate n a).set 0 x := by
  obtain ⟨m, rfl⟩ : ∃ m, n = m + 1 := ⟨n - 1, by omega⟩
  rfl
theorem cons_tail {α : Type} {l : List α} {x : α} (h : 0 < l.length) : x :: l.tail = l.set 0 x := by
  cases l with
  | nil => simp at h
  | cons c r => rfl
end Go.AX
namespace Go.AX
theorem hd_set0 {α : Type} {l : List α} {x d : α} (h : 0 < l.length) : (l.set 0 x).headD d = x := by
  cases l with
  | nil => simp at h
  | cons c r => rfl
end Go.AX
set_option linter.unusedVariables false
namespace Go.AX
open Go.Proofs
theorem ti2 : mkTI Try.prog 2 = ⟨TK.int .i64, 1, 8, [AV.d (D.int .i64 0)]⟩ := by kernel_rfl
theorem ti3 : mkTI Try.prog 3 = ⟨TK.int .i64, 1, 8, [AV.d (D.int .i64 0)]⟩ := by kernel_rfl
theorem ti4 : mkTI Try.prog 4 = ⟨TK.bool, 1, 1, [AV.d (D.bool false)]⟩ := by kernel_rfl
theorem ti5 : mkTI Try.prog 5 = ⟨TK.int .u8, 1, 1, [AV.d (D.int .u8 0)]⟩ := by kernel_rfl
theorem ti6 : mkTI Try.prog 6 = ⟨TK.int .u8, 1, 1, [AV.d (D.int .u8 0)]⟩ := by kernel_rfl
theorem ti7 : mkTI Try.prog 7 = ⟨TK.struct [(0, 2), (1, 3), (2, 4), (3, 6)], 4, 24, [AV.d (D.int .i64 0), AV.d (D.int .i64 0), AV.d (D.bool false), AV.d (D.int .u8 0)]⟩ := by kernel_rfl
theorem ti8 : mkTI Try.prog 8 = ⟨TK.struct [(0, 2), (1, 3), (2, 4), (3, 6)], 4, 24, [AV.d (D.int .i64 0), AV.d (D.int .i64 0), AV.d (D.bool false), AV.d (D.int .u8 0)]⟩ := by kernel_rfl
theorem ti9 : mkTI Try.prog 9 = ⟨TK.str, 1, 16, [AV.d (D.str [])]⟩ := by kernel_rfl
theorem ti10 : mkTI Try.prog 10 = ⟨TK.str, 1, 16, [AV.d (D.str [])]⟩ := by kernel_rfl
theorem ti11 : mkTI Try.prog 11 = ⟨TK.str, 1, 16, [AV.d (D.str [])]⟩ := by kernel_rfl
theorem ti12 : mkTI Try.prog 12 = ⟨TK.int .u64, 1, 8, [AV.d (D.int .u64 0)]⟩ := by kernel_rfl
theorem ti13 : mkTI Try.prog 13 = ⟨TK.struct [(0, 9), (1, 12)], 2, 24, [AV.d (D.str []), AV.d (D.int .u64 0)]⟩ := by kernel_rfl
theorem ti14 : mkTI Try.prog 14 = ⟨TK.struct [(0, 9), (1, 12)], 2, 24, [AV.d (D.str []), AV.d (D.int .u64 0)]⟩ := by kernel_rfl
theorem ti15 : mkTI Try.prog 15 = ⟨TK.ptr 97, 1, 8, [AV.nilp]⟩ := by kernel_rfl
theorem ti16 : mkTI Try.prog 16 = ⟨TK.ptr 100, 1, 8, [AV.nilp]⟩ := by kernel_rfl
theorem ti17 : mkTI Try.prog 17 = ⟨TK.ptr 108, 1, 8, [AV.nilp]⟩ := by kernel_rfl
theorem ti18 : mkTI Try.prog 18 = ⟨TK.struct [(0, 17)], 1, 8, [AV.nilp]⟩ := by kernel_rfl
theorem ti19 : mkTI Try.prog 19 = ⟨TK.struct [(0, 17)], 1, 8, [AV.nilp]⟩ := by kernel_rfl
theorem ti21 : mkTI Try.prog 21 = ⟨TK.int .i32, 1, 4, [AV.d (D.int .i32 0)]⟩ := by kernel_rfl
theorem ti22 : mkTI Try.prog 22 = ⟨TK.slice 3, 1, 24, [AV.nils]⟩ := by kernel_rfl
theorem ti23 : mkTI Try.prog 23 = ⟨TK.ptr 61, 1, 8, [AV.nilp]⟩ := by kernel_rfl
theorem ti25 : mkTI Try.prog 25 = ⟨TK.slice 64, 1, 24, [AV.nils]⟩ := by kernel_rfl
theorem ti26 : mkTI Try.prog 26 = ⟨TK.struct [(0, 22), (1, 25)], 2, 48, [AV.nils, AV.nils]⟩ := by kernel_rfl
theorem ti27 : mkTI Try.prog 27 = ⟨TK.struct [(0, 22), (1, 25)], 2, 48, [AV.nils, AV.nils]⟩ := by kernel_rfl
theorem ti32 : mkTI Try.prog 32 = ⟨TK.struct [(0, 3), (1, 3), (2, 3), (3, 3), (4, 3), (5, 3), (6, 3)], 7, 56, [AV.d (D.int .i64 0), AV.d (D.int .i64 0), AV.d (D.int .i64 0), AV.d (D.int .i64 0), AV.d (D.int .i64 0), AV.d (D.int .i64 0), AV.d (D.int .i64 0)]⟩ := by kernel_rfl
theorem ti33 : mkTI Try.prog 33 = ⟨TK.struct [(0, 3), (1, 3), (2, 3), (3, 3), (4, 3), (5, 3), (6, 3)], 7, 56, [AV.d (D.int .i64 0), AV.d (D.int .i64 0), AV.d (D.int .i64 0), AV.d (D.int .i64 0), AV.d (D.int .i64 0), AV.d (D.int .i64 0), AV.d (D.int .i64 0)]⟩ := by kernel_rfl
theorem ti34 : mkTI Try.prog 34 = ⟨TK.slice 33, 1, 24, [AV.nils]⟩ := by kernel_rfl
theorem ti41 : mkTI Try.prog 41 = ⟨TK.slice 22, 1, 24, [AV.nils]⟩ := by kernel_rfl
theorem ti42 : mkTI Try.prog 42 = ⟨TK.int .i64, 1, 8, [AV.d (D.int .i64 0)]⟩ := by kernel_rfl
theorem ti50 : mkTI Try.prog 50 = ⟨TK.struct [(0, 4), (1, 22), (2, 3), (3, 34)], 4, 64, [AV.d (D.bool false), AV.nils, AV.d (D.int .i64 0), AV.nils]⟩ := by kernel_rfl
theorem ti51 : mkTI Try.prog 51 = ⟨TK.struct [(0, 4), (1, 22), (2, 3), (3, 34)], 4, 64, [AV.d (D.bool false), AV.nils, AV.d (D.int .i64 0), AV.nils]⟩ := by kernel_rfl
theorem ti56 : mkTI Try.prog 56 = ⟨TK.int .u64, 1, 8, [AV.d (D.int .u64 0)]⟩ := by kernel_rfl
theorem ti60 : mkTI Try.prog 60 = ⟨TK.struct [(0, 22), (1, 3)], 2, 32, [AV.nils, AV.d (D.int .i64 0)]⟩ := by kernel_rfl
theorem ti61 : mkTI Try.prog 61 = ⟨TK.struct [(0, 22), (1, 3)], 2, 32, [AV.nils, AV.d (D.int .i64 0)]⟩ := by kernel_rfl
theorem ti63 : mkTI Try.prog 63 = ⟨TK.struct [(0, 22), (1, 3), (2, 3)], 3, 40, [AV.nils, AV.d (D.int .i64 0), AV.d (D.int .i64 0)]⟩ := by kernel_rfl
theorem ti64 : mkTI Try.prog 64 = ⟨TK.struct [(0, 22), (1, 3), (2, 3)], 3, 40, [AV.nils, AV.d (D.int .i64 0), AV.d (D.int .i64 0)]⟩ := by kernel_rfl
theorem ti74 : mkTI Try.prog 74 = ⟨TK.slice 4, 1, 24, [AV.nils]⟩ := by kernel_rfl
theorem ti76 : mkTI Try.prog 76 = ⟨TK.array 2 3, 2, 16, [AV.d (D.int .i64 0), AV.d (D.int .i64 0)]⟩ := by kernel_rfl
theorem ti89 : mkTI Try.prog 89 = ⟨TK.int .u32, 1, 4, [AV.d (D.int .u32 0)]⟩ := by kernel_rfl
theorem ti92 : mkTI Try.prog 92 = ⟨TK.int .u64, 1, 8, [AV.d (D.int .u64 0)]⟩ := by kernel_rfl
theorem ti96 : mkTI Try.prog 96 = ⟨TK.struct [(0, 17), (1, 17), (2, 17), (3, 9)], 4, 40, [AV.nilp, AV.nilp, AV.nilp, AV.d (D.str [])]⟩ := by kernel_rfl
theorem ti97 : mkTI Try.prog 97 = ⟨TK.struct [(0, 17), (1, 17), (2, 17), (3, 9)], 4, 40, [AV.nilp, AV.nilp, AV.nilp, AV.d (D.str [])]⟩ := by kernel_rfl
theorem ti98 : mkTI Try.prog 98 = ⟨TK.array 0 16, 0, 0, []⟩ := by kernel_rfl
theorem ti99 : mkTI Try.prog 99 = ⟨TK.struct [(0, 98)], 0, 0, []⟩ := by kernel_rfl
theorem ti100 : mkTI Try.prog 100 = ⟨TK.struct [(0, 98)], 0, 0, []⟩ := by kernel_rfl
theorem ti101 : mkTI Try.prog 101 = ⟨TK.int .u8, 1, 1, [AV.d (D.int .u8 0)]⟩ := by kernel_rfl
theorem ti102 : mkTI Try.prog 102 = ⟨TK.int .u8, 1, 1, [AV.d (D.int .u8 0)]⟩ := by kernel_rfl
theorem ti104 : mkTI Try.prog 104 = ⟨TK.ptr 5, 1, 8, [AV.nilp]⟩ := by kernel_rfl
theorem ti105 : mkTI Try.prog 105 = ⟨TK.int .i32, 1, 4, [AV.d (D.int .i32 0)]⟩ := by kernel_rfl
theorem ti106 : mkTI Try.prog 106 = ⟨TK.int .i32, 1, 4, [AV.d (D.int .i32 0)]⟩ := by kernel_rfl
theorem ti107 : mkTI Try.prog 107 = ⟨TK.struct [(0, 12), (1, 12), (2, 89), (3, 101), (4, 5), (5, 5), (6, 102), (7, 103), (8, 104), (9, 105), (10, 106)], 11, 48, [AV.d (D.int .u64 0), AV.d (D.int .u64 0), AV.d (D.int .u32 0), AV.d (D.int .u8 0), AV.d (D.int .u8 0), AV.d (D.int .u8 0), AV.d (D.int .u8 0), AV.any, AV.nilp, AV.d (D.int .i32 0), AV.d (D.int .i32 0)]⟩ := by kernel_rfl
theorem ti108 : mkTI Try.prog 108 = ⟨TK.struct [(0, 12), (1, 12), (2, 89), (3, 101), (4, 5), (5, 5), (6, 102), (7, 103), (8, 104), (9, 105), (10, 106)], 11, 48, [AV.d (D.int .u64 0), AV.d (D.int .u64 0), AV.d (D.int .u32 0), AV.d (D.int .u8 0), AV.d (D.int .u8 0), AV.d (D.int .u8 0), AV.d (D.int .u8 0), AV.any, AV.nilp, AV.d (D.int .i32 0), AV.d (D.int .i32 0)]⟩ := by kernel_rfl
end Go.AX
set_option linter.unusedVariables false
set_option linter.unusedSimpArgs false
set_option maxRecDepth 20000
set_option maxHeartbeats 4000000
namespace Go.AX
open Go.Proofs
theorem mixed : Try.prog.follows .mixedOrders = true := by kernel_rfl
structure Row where
  Coefs : List Int
  Least : Int
  Most : Int
  deriving DecidableEq, Inhabited
def Row.D (x : Row) : List D := [.sl (List.map iD x.Coefs), .int .i64 x.Least, .int .i64 x.Most]
theorem Row.D_len (x : Row) : x.D.length = 3 := rfl
structure Node where
  Kind : Int
  Var : Int
  Zero : Int
  One : Int
  Row : Int
  Num : Int
  Den : Int
  deriving DecidableEq, Inhabited
def Node.D (x : Node) : List D := [.int .i64 x.Kind, .int .i64 x.Var, .int .i64 x.Zero, .int .i64 x.One, .int .i64 x.Row, .int .i64 x.Num, .int .i64 x.Den]
theorem Node.D_len (x : Node) : x.D.length = 7 := rfl

end Go.AX
