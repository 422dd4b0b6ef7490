import Derived.Test.YtebcedhhcpibpaaA1
import Derived.Laws.IdiomCopy
import Derived.Lib.SliceRun
import Derived.Scope
import Derived.Below
set_option linter.unusedVariables false
set_option linter.unusedSimpArgs false
namespace Go.AX
def aMakeBox (P : Program) (nm t : Nat) (l c : AV) : Out :=
  match l, c with
  | .d (.int _ m), .d (.int _ m') => ⟨(mkTI P t).k.isSl = true ∧ (mkTI P (mkTI P t).k.el).size = 1 ∧ (mkTI P (mkTI P t).k.el).zero.length = (mkTI P (mkTI P t).k.el).size ∧ zDp (mkTI P (mkTI P t).k.el).zero ∧ 0 ≤ m ∧ m = m' ∧ (mkTI P (mkTI P t).k.el).bytes * m ≤ 281474976710656 ∧ m ≤ 281474976710656,
      .arr nm 0 m.toNat, [(nm, some (.box ((List.replicate m.toNat (zD (mkTI P (mkTI P t).k.el).zero)).flatten.map AV.d)))]⟩
  | _, _ => fail
theorem sem_makeBox {P n d nm t l c tr p e g E H} (hd : ∀ i, d = some i → i < n) (hf : Fresh nm E H) (h : (aMakeBox P nm t (evalA E l) (evalA E c)).pre) :
    OSem P n ⟨d, .makeSlice t l c, tr, p, e, g⟩ E H (aMakeBox P nm t (evalA E l) (evalA E c)).res (aMakeBox P nm t (evalA E l) (evalA E c)).upd :=
  OSem.value hd fun A β a w hc => by
    have h2 := hc.eval l
    have h3 := hc.eval c
    generalize evalA E l = L at *
    generalize evalA E c = C at *
    unfold aMakeBox at h ⊢
    split at h
    · rename_i k m k' m'
      obtain ⟨g1, g2, g3, g4, g5, rfl, g7, g8⟩ := h
      simp only [RepV, RepD] at h2 h3
      obtain ⟨el, hel⟩ := TK.sl_of g1
      have hu := und_slice hel
      have hel' : (mkTI P t).k.el = el := by rw [hel]; rfl
      simp only [hel'] at g2 g3 g4 g7 ⊢
      obtain ⟨i, hi, hs, hby, hz⟩ := info_of (P := P) (t := el) (by omega)
      cases hzz : i.zero with
      | none => rw [hzz] at hz; rw [hz] at g3; simp at g3; omega
      | some z =>
        rw [hzz] at hz
        have hz' : (mkTI P el).zero = z.cells.toList.map zv := hz
        have hzr : RepVs w A β H (mkTI P el).zero z.cells.toList := by
          rw [hz']
          generalize z.cells.toList = l
          induction l with
          | nil => simp [RepVs]
          | cons x r ih => simp only [List.map_cons, RepVs]; exact ⟨x, _, rfl, zv_rep x, ih⟩
        have hzd := zD_rep g4 hzr
        have hcs : z.cells.size = (mkTI P el).size := by rw [← g3, hz']; simp
        have hrun := run_make (P := P) w t el i z hu hi hzz k k' m m g5 (Int.le_refl _) (by rw [hby]; exact g7) (by omega)
        rw [hs, ← hcs] at hrun
        obtain ⟨hc', ht⟩ := hc.alloc hf (madeCells z.cells (m.toNat * z.cells.size)) el (.box ((List.replicate m.toNat (zD (mkTI P el).zero)).flatten.map AV.d))
          ⟨RepVs_d.2 (made_rep hzd m.toNat), by
            generalize (List.replicate m.toNat (zD (mkTI P el).zero)).flatten = ds
            induction ds with
            | nil => simp [AV.idsL]
            | cons x r ih => simp only [List.map_cons, AV.idsL, AV.ids, List.nil_append]; exact ih⟩
        refine ⟨_, _, A, _, by simp only [execOp, h2.1, h3.1, hrun, Sem.run_bind, Sem.run_pure, Result.andThen_ok]; try rfl, by rw [updF_one]; exact hc', ?_, by rw [updF_one]; exact ht⟩
        simp only [RepV, updF, if_true]
        exact ⟨w.heap.size, ⟨w.heap.size, 0, none⟩, m.toNat, rfl, rfl, Nat.le_refl _, .inr rfl, by rw [blk_new, size_madeCells, hcs, g2]; omega⟩
    · exact h.elim
def dataL : List AV → Prop
  | [] => True
  | .d _ :: r => dataL r
  | _ :: _ => False
theorem dataL_one {w A β H} : ∀ {xs : List AV} {vs : List Value}, RepVs w A β H xs vs → dataL xs → ∀ v ∈ vs, v.oneCell' = true
  | [], vs, h, _, v, hv => by simp only [RepVs] at h; rw [h] at hv; simp at hv
  | x :: r, vs, h, k, v, hv => by
    simp only [RepVs] at h
    obtain ⟨u, t, rfl, hx, h⟩ := h
    cases x <;> first | exact k.elim | skip
    rcases List.mem_cons.1 hv with rfl | hv
    · exact ok2_one (H := H) hx (by simp [AV.ok2, AV.ok1])
    · exact dataL_one h k v hv
/-- What a copy reads: cells of a box, or frozen elements of one cell. -/
def cellsOf (H : HF) : AV → List AV
  | .nils => []
  | .d (.sl es) => es.flatten.map AV.d
  | .arr id off len => match H id with
    | some (.box cs) => (cs.drop off).take len
    | _ => []
  | _ => []
def cellsOfP (H : HF) : AV → Prop
  | .nils => True
  | .d (.sl es) => ∀ e ∈ es, e.length = 1
  | .arr id off len => match H id with
    | some (.box cs) => off + len ≤ cs.length
    | _ => False
  | _ => False
theorem cellsOf_rep {n A β E H a w} (hc : CfgF n A β E H a w) {x : AV} {v : Value} (hx : RepV w A β H x v) (hp : cellsOfP H x) :
    ∃ ad c news, v = .slice ad (cellsOf H x).length c ∧ RepVs w A β H (cellsOf H x) news ∧
      ((cellsOf H x).length = 0 ∨ ∃ b o, ad = some ⟨b, o, none⟩ ∧ ∀ (j : Nat) (u : Value), news[j]? = some u → w.cell? ⟨b, o + j, none⟩ = some u) := by
  cases x with
  | nils =>
    simp only [RepV] at hx
    obtain ⟨ad, rfl⟩ := hx
    exact ⟨ad, 0, [], rfl, by simp [cellsOf, RepVs], .inl rfl⟩
  | d y =>
    cases y with
    | sl es =>
      have hp' : ∀ e ∈ esOf H (.d (.sl es)), e.length = 1 := hp
      obtain ⟨ad, c, news, h1, h2, h3, h4, h5⟩ := esOf_rep hc hx trivial 1 hp'
      have hfl : ∀ l : List (List D), (∀ e ∈ l, e.length = 1) → l.flatten.length = l.length := by
        intro l
        induction l with
        | nil => intro _; rfl
        | cons e r ih => intro h; simp only [List.flatten_cons, List.length_append, List.length_cons]; rw [h e (by simp), ih fun y hy => h y (by simp [hy])]; omega
      have hl : (cellsOf H (.d (.sl es))).length = (esOf H (.d (.sl es))).length := by
        simp only [cellsOf, List.length_map]; exact hfl es hp
      exact ⟨ad, c, news, by rw [hl]; exact h1, RepVs_d.2 h3, by rw [hl]; exact h5⟩
    | int k i => exact hp.elim
    | bool b => exact hp.elim
    | str s => exact hp.elim
  | arr id off len =>
    simp only [cellsOfP] at hp
    split at hp
    · rename_i cs ho
      simp only [RepV, ho] at hx
      obtain ⟨b, ad, cap, hb, rfl, hcap, ha, _⟩ := hx
      obtain ⟨b', cur, T, hb', hcc, hr⟩ := hc.heap.box id cs ho
      rw [hb] at hb'; cases hb'
      have hl : (cellsOf H (.arr id off len)).length = len := by simp only [cellsOf, ho, List.length_take, List.length_drop]; omega
      refine ⟨some ad, cap, (cur.toList.drop off).take len, by rw [hl], by simp only [cellsOf, ho]; exact (hr.drop off).take len, ?_⟩
      by_cases h0 : len = 0
      · exact .inl (by rw [hl]; exact h0)
      · rcases ha with ha | ha
        · omega
        · refine .inr ⟨b, off, by rw [ha], fun j u hj => ?_⟩
          rw [List.getElem?_take] at hj
          split at hj
          · rw [List.getElem?_drop, Array.getElem?_toList] at hj
            simpa [World.cell?, hcc] using hj
          · cases hj
    · exact hp.elim
  | _ => exact hp.elim
/-- A splice that always keeps the length. -/
def spl {τ : Type} (a : List τ) (o : Nat) (b : List τ) : List τ := if o + b.length ≤ a.length then a.take o ++ b ++ a.drop (o + b.length) else a
theorem spl_len {τ : Type} (a : List τ) (o : Nat) (b : List τ) : (spl a o b).length = a.length := by
  unfold spl
  split
  · simp only [List.length_append, List.length_take, List.length_drop]; omega
  · rfl
theorem spl_map {τ τ' : Type} (f : τ → τ') (a b : List τ) (o : Nat) : spl (a.map f) o (b.map f) = (spl a o b).map f := by
  unfold spl
  simp only [List.length_map]
  split
  · simp [List.map_take, List.map_drop]
  · rfl
theorem spl_eq {τ : Type} {a b : List τ} {o : Nat} (h : o + b.length ≤ a.length) : splice a o b = spl a o b := by
  unfold spl
  rw [if_pos h]; rfl
def aCopy (P : Program) (t : Nat) (x y : AV) (H : HF) : Out :=
  match x with
  | .arr id off len => match H id with
    | some (.box cs) => ⟨(mkTI P t).k.isSl = true ∧ (mkTI P (mkTI P t).k.el).size = 1 ∧ cellsOfP H y ∧ dataL ((cellsOf H y).take len) ∧ off + len ≤ cs.length,
        .d (.int .i64 (min (cellsOf H y).length len : Nat)), [(id, some (.box (spl cs off ((cellsOf H y).take len))))]⟩
    | _ => fail
  | _ => fail
theorem sem_copy {P n d t t' x y tr p e g E H} (hd : ∀ i, d = some i → i < n) (h : (aCopy P t (evalA E x) (evalA E y) H).pre) :
    OSem P n ⟨d, .call { callee := .builtin .copy, args := #[x, y], argTypes := #[t, t'] }, tr, p, e, g⟩ E H (aCopy P t (evalA E x) (evalA E y) H).res (aCopy P t (evalA E x) (evalA E y) H).upd :=
  OSem.value hd fun A β a w hc => by
    have h2 := hc.eval x
    have h3 := hc.eval y
    generalize evalA E x = X at *
    generalize evalA E y = Y at *
    unfold aCopy at h ⊢
    split at h
    · rename_i id off len
      split at h
      · rename_i cs ho
        obtain ⟨g1, g2, g3, g4, g5⟩ := h
        rw [← spl_eq (a := cs) (b := (cellsOf H Y).take len) (o := off) (by rw [List.length_take]; omega)]
        obtain ⟨el, hel⟩ := TK.sl_of g1
        have hu := und_slice hel
        have hel' : (mkTI P t).k.el = el := by rw [hel]; rfl
        rw [hel'] at g2
        have hs1 : (P.info? el).map (·.size) = some 1 := by
          obtain ⟨i, hi, hs, _⟩ := info_of (P := P) (t := el) (by omega)
          rw [hi]; simp [hs, g2]
        simp only [RepV, ho] at h2
        obtain ⟨b, ad, cap, hb, e1, hcap, ha, _⟩ := h2
        obtain ⟨ad2, c2, news, e2, hn, hsrc⟩ := cellsOf_rep hc h3 g3
        obtain ⟨b', cur, T, hb', hcc, hr⟩ := hc.heap.box id cs ho
        rw [hb] at hb'; cases hb'
        have hrl := hr.length
        have hnl := hn.length
        simp at hrl
        have run : ∀ v w', (Builtin.copy_ #[t, t'] tr #[a.eval x, a.eval y]).run P w = .ok v w' →
            (execOp a.eval ⟨d, .call { callee := .builtin .copy, args := #[x, y], argTypes := #[t, t'] }, tr, p, e, g⟩).run P w = .ok (.value v) w' := fun v w' hr =>
          run_builtin_op (Builtin.copy_ #[t, t'] tr #[a.eval x, a.eval y]) (fun _ => by simp [builtin]) hr
        have hkt : (news.take len).length = Nat.min (cellsOf H Y).length len := by
          rw [List.length_take, hnl]; exact Nat.min_comm _ _
        have hsz : (splice cur.toList off (news.take len)).toArray.size = cur.size := by
          rw [List.size_toArray, splice_length _ _ _ (by simp only [List.length_take, Array.length_toList]; omega)]; simp
        obtain ⟨hc2, ht2⟩ := hc.write ho (.box (splice cs off ((cellsOf H Y).take len))) (c' := (splice cur.toList off (news.take len)).toArray) hb hcc hsz (hr.splice (off := off) (hn.take len))
        by_cases h0 : Nat.min (cellsOf H Y).length len = 0
        · have hz : news.take len = [] := List.eq_nil_of_length_eq_zero (by rw [hkt]; exact h0)
          have hself : w.setRow b (splice cur.toList off (news.take len)).toArray = w := by
            rw [hz]; simp only [splice, List.append_nil, List.length_nil, Nat.add_zero, List.take_append_drop, Array.toArray_toList]
            exact setRow_self w b cur T (0, 0) hcc
          rw [hself] at hc2 ht2
          refine ⟨_, w, A, β, run _ _ (by rw [e1, e2]; exact run_copy_none w t t' tr el _ _ _ _ _ _ hu hs1 h0), by simp only [updF_one]; exact hc2, ?_, by simp only [updF_one]; exact ht2⟩
          simp only [RepV, RepD, goInt]
          exact ⟨by rw [show min (cellsOf H Y).length len = 0 from h0]; rfl, trivial⟩
        · have hpos : ¬ cap = 0 := by
            rintro rfl
            have : len = 0 := by omega
            rw [this] at h0; exact h0 (Nat.min_zero _)
          rcases ha with ha | ha
          · exact absurd ha hpos
          subst ha
          rcases hsrc with hsrc | ⟨b2, o2, rfl, hsrc⟩
          · rw [hsrc] at h0; exact absurd (Nat.zero_min _) h0
          have hrun := run_copy_row P w t t' tr el b off len cap ⟨b2, o2, none⟩ (cellsOf H Y).length c2 cur T (news.take len) hu hs1 hcc hkt (fun j v hj => by
            rw [List.getElem?_take] at hj
            split at hj
            · rw [add_eq]; exact hsrc j v hj
            · cases hj) (by simp only [List.length_take]; omega) (dataL_one (hn.take len) g4)
          refine ⟨_, _, A, β, run _ _ (by rw [e1, e2]; exact hrun), by simp only [updF_one]; exact hc2, ?_, by simp only [updF_one]; exact ht2⟩
          simp only [RepV, RepD, goInt, hkt]
          exact ⟨trivial, trivial⟩
      · exact h.elim
    · exact h.elim
theorem aMakeBox_mem {P nm t l c} (h : (aMakeBox P nm t l c).pre) : ∃ x, (nm, some x) ∈ (aMakeBox P nm t l c).upd := by
  unfold aMakeBox at h ⊢
  split at h
  · exact ⟨_, List.mem_singleton.2 rfl⟩
  · exact h.elim
theorem cellsOf_congr {H H' : HF} {x : AV} (h : ∀ i ∈ x.ids, H' i = H i) : cellsOf H' x = cellsOf H x := by
  cases x with
  | arr id off len => have e := h id (by simp [AV.ids]); simp only [cellsOf, e]
  | d y => cases y <;> rfl
  | _ => rfl
theorem cellsOfP_congr {H H' : HF} {x : AV} (h : ∀ i ∈ x.ids, H' i = H i) : cellsOfP H' x = cellsOfP H x := by
  cases x with
  | arr id off len => have e := h id (by simp [AV.ids]); simp only [cellsOfP, e]
  | d y => cases y <;> rfl
  | _ => rfl
theorem aCopy_congr {P t} {H H' : HF} {x y : AV} (h : ∀ i ∈ x.ids ++ y.ids, H' i = H i) : aCopy P t x y H' = aCopy P t x y H := by
  have hx : ∀ i ∈ x.ids, H' i = H i := fun i hi => h i (List.mem_append.2 (.inl hi))
  have hy : ∀ i ∈ y.ids, H' i = H i := fun i hi => h i (List.mem_append.2 (.inr hi))
  have e1 := cellsOf_congr hy
  have e2 := cellsOfP_congr hy
  cases x with
  | arr id off len =>
    have e := hx id (by simp [AV.ids])
    simp only [aCopy, e, e1, e2]
  | _ => rfl
/-- Is a slice nil? (asked only of slices that hold something) -/
def isNilC : Operand → Bool
  | .const (.slice none 0 0) => true
  | _ => false
theorem isNilC_of {y : Operand} (h : isNilC y = true) : y = .const (.slice none 0 0) := by
  unfold isNilC at h; split at h
  · rfl
  · cases h
def aNilEq (P : Program) (op : BinOp) (t : Nat) (x : AV) : Out :=
  match op, x with
  | .eql, .d (.sl es) => ⟨(mkTI P t).k.isSl = true ∧ 0 < es.length, .d (.bool false), []⟩
  | .eql, .nl b => ⟨(mkTI P t).k.isSl = true, .d (.bool b), []⟩
  | _, _ => fail
theorem sem_nilEq {P n d op t x y ty tr p e g E H} (hd : ∀ i, d = some i → i < n) (hy : isNilC y = true) (h : (aNilEq P op t (evalA E x)).pre) :
    OSem P n ⟨d, .binOp op t x y ty, tr, p, e, g⟩ E H (aNilEq P op t (evalA E x)).res [] :=
  OSem.pure hd fun A β a w hc => by
    have h2 := hc.eval x
    generalize evalA E x = X at *
    obtain rfl := isNilC_of hy
    unfold aNilEq at h ⊢
    split at h
    · obtain ⟨h1, h3⟩ := h
      obtain ⟨el, hel⟩ := TK.sl_of h1
      have hu := und_slice hel
      simp only [RepV, RepD] at h2
      obtain ⟨ad, cap, e1, _, _, h4⟩ := h2
      rcases h4 with h4 | ⟨b, o, s, rfl, _⟩
      · rw [h4] at h3; simp at h3
      · exact ⟨.bool false, run_binOp_op e1 rfl (eqGuard_at_slice ..) (Go.Lib.run_eql_slice_nil w t el _ _ _ _ _ hu), by simp only [RepV, RepD]⟩
    · rename_i b
      obtain ⟨el, hel⟩ := TK.sl_of h
      have hu := und_slice hel
      simp only [RepV] at h2
      obtain ⟨ad, cap, e1, hb⟩ := h2
      exact ⟨.bool b, run_binOp_op e1 rfl (eqGuard_at_slice ..) (by rw [← hb]; exact Go.Lib.run_eql_slice_nil w t el _ _ _ _ _ hu), by simp only [RepV, RepD]⟩
    · exact h.elim
end Go.AX
set_option linter.unusedVariables false
set_option linter.unusedSimpArgs false
namespace Go.AX

abbrev EL := List (Nat × AV)
def eget : EL → EF
  | [], _ => .any
  | (j, x) :: r, i => if i = j then x else eget r i
def hget : HL → HF
  | [], _ => none
  | (j, o) :: r, i => if i = j then o else hget r i

theorem hget_append (u h : HL) : hget (u ++ h) = updF (hget h) u := by
  funext i
  induction u with
  | nil => rfl
  | cons x r ih =>
    obtain ⟨j, o⟩ := x
    simp only [List.cons_append, hget, updF, ih]

structure St where
  e : EL
  h : HL

def putL (e : EL) : Option Nat → AV → EL
  | none, _ => e
  | some d, x => (d, x) :: e
theorem eget_putL (e : EL) (d : Option Nat) (x : AV) : eget (putL e d x) = putE (eget e) d x := by
  cases d <;> rfl

def freshE (nm : Nat) : EL → Prop
  | [] => True
  | (_, x) :: r => nm ∉ x.ids ∧ freshE nm r
def freshO (nm : Nat) : Option AObj → Prop
  | none => True
  | some o => nm ∉ o.ids
def freshH (nm : Nat) : HL → Prop
  | [] => True
  | (j, o) :: r => nm ≠ j ∧ freshO nm o ∧ freshH nm r

theorem freshE_get {nm : Nat} : ∀ {e : EL}, freshE nm e → ∀ t, nm ∉ (eget e t).ids
  | [], _, t => by simp [eget, AV.ids]
  | (j, x) :: r, h, t => by
    simp only [eget]
    split
    · exact h.1
    · exact freshE_get h.2 t
theorem freshH_get {nm : Nat} : ∀ {h : HL}, freshH nm h → hget h nm = none ∧ ∀ j o, hget h j = some o → nm ∉ o.ids
  | [], _ => by simp [hget]
  | (j, o) :: r, h => by
    obtain ⟨h1, h2, h3⟩ := h
    obtain ⟨h4, h5⟩ := freshH_get h3
    refine ⟨by simp only [hget, h1, if_false]; exact h4, fun k o' ho => ?_⟩
    simp only [hget] at ho
    split at ho
    · subst ho; exact h2
    · exact h5 k o' ho
theorem fresh_of {nm : Nat} {s : St} (h1 : freshE nm s.e) (h2 : freshH nm s.h) : Fresh nm (eget s.e) (hget s.h) :=
  ⟨(freshH_get h2).1, freshE_get h1, (freshH_get h2).2⟩

/-- New names are new. -/
def freshU (nb : Nat) (s : St) : HL → Prop
  | [] => True
  | (i, some _) :: r => (hget s.h i ≠ none ∨ (nb ≤ i ∧ freshE i s.e ∧ freshH i s.h)) ∧ freshU nb s r
  | (_, none) :: r => freshU nb s r

def dstOk (n : Nat) : Option Nat → Prop
  | none => True
  | some d => d < n

def updIds : HL → List Nat
  | [] => []
  | (_, some o) :: r => o.ids ++ updIds r
  | (_, none) :: r => updIds r

def St.ev (s : St) (x : Operand) : AV := evalA (eget s.e) x

def po (o : Out) : Out := ⟨o.pre, o.res, []⟩
def so (o : Out) : Out := ⟨o.pre, .any, o.upd⟩
/-- The name is not in use. -/
def aNew (H : HF) (nm : Nat) (o : Out) : Out := ⟨H nm = none ∧ o.pre, o.res, o.upd⟩

/-- The outcome of every operation but the calls of functions with a body; what it looks at in the heap. -/
def outOf (P : Program) (nb : Nat) (o : Oper) (E : EF) (H : HF) : Out × List Nat :=
  let nm := nb + o.dst.getD 0
  let ev := evalA E
  match o.op with
  | .move x | .assign x => (ok (ev x), [])
  | .pick c a b => (po (aPick (ev c) (ev a) (ev b)), [])
  | .binOp op t x y _ => (po (if isNilC y = true then aNilEq P op t (ev x) else aBin P op t (ev x) (ev y)), [])
  | .unOp op _ x => (po (aUn op (ev x)), [])
  | .extract x i => (po (aExtract (ev x) i), [])
  | .makeFunc f first caps => (po (aMakeFunc f (first.toList.map ev) (caps.toList.map ev)), [])
  | .convert a b x => (po (aConv P a b (ev x) H), (ev x).ids)
  | .nilCheck x => (po (aNilCheck (ev x) H), (ev x).ids)
  | .fieldAddr s x f => (po (aFieldAddr P s (ev x) f H), (ev x).ids)
  | .field s x f => (po (aField P s (ev x) f), [])
  | .load t x => (po (aLoad P t (ev x) H), (ev x).ids)
  | .store t x y => (so (aStore P t (ev x) (ev y) H), (ev x).ids ++ (ev y).ids)
  | .indexAddr t x i => (po (aIndexAddr P t (ev x) (ev i) H), (ev x).ids)
  | .index t x i => (po (aIndex P t (ev x) (ev i)), [])
  | .slice t x lo hi none => (po (aSlice P t (ev x) (lo.map ev) (hi.map ev) H), (ev x).ids)
  | .slice t x none (some hi) (some mx) => (po (aSlice0 P t (ev x) (ev hi) (ev mx) H), (ev x).ids)
  | .alloc t => (aNew H nm (aAlloc P nm t), [nm])
  | .box _ x => (aNew H nm (aBox nm (ev x) H), nm :: (ev x).ids)
  | .build t ps => (po (aBuild P t (ps.toList.map fun p => (p.1, ev p.2)) H), AV.idsL (ps.toList.map fun p => ev p.2))
  | .buildSlice t len ps => (aNew H nm (aBuildSlice P nm t len (ps.toList.map fun p => (p.1, ev p.2)) H), nm :: AV.idsL (ps.toList.map fun p => ev p.2))
  | .makeSlice t l c => (aNew H nm (if 100000 ≤ nb then aMakeBox P nm t (ev l) (ev c) else aMake P nm t (ev l) (ev c)), [nm])
  | .call { callee := .builtin .len, args := ⟨[x]⟩, argTypes := ⟨[t]⟩ } => (po (aLen P t (ev x) H), (ev x).ids)
  | .call { callee := .builtin .min, args := ⟨[x, y]⟩, argTypes := _ } => (po (aMin (ev x) (ev y)), [])
  | .call { callee := .builtin .max, args := ⟨[x, y]⟩, argTypes := _ } => (po (aMax (ev x) (ev y)), [])
  | .call { callee := .builtin .append, args := ⟨[x, y]⟩, argTypes := ⟨[t, u]⟩ } => (if t = u then aAppend P nm t (ev x) (ev y) H else fail, nm :: ((ev x).ids ++ (ev y).ids))
  | .call { callee := .builtin .copy, args := ⟨[x, y]⟩, argTypes := ⟨[t, _]⟩ } => (aCopy P t (ev x) (ev y) H, (ev x).ids ++ (ev y).ids)
  | _ => (fail, [])

theorem aMake_mem {P nm t l c} (h : (aMake P nm t l c).pre) : ∃ x, (nm, some x) ∈ (aMake P nm t l c).upd := by
  unfold aMake at h ⊢
  split at h
  · exact ⟨_, List.mem_singleton.2 rfl⟩
  · exact h.elim

theorem outOf_sound {P n nb} {o : Oper} {E H} (hd : ∀ i, o.dst = some i → i < n) (hpre : (outOf P nb o E H).1.pre)
    (hf : ∀ i x, (i, some x) ∈ (outOf P nb o E H).1.upd → H i = none → Fresh i E H) :
    OSem P n o E H (outOf P nb o E H).1.res (outOf P nb o E H).1.upd := by
  obtain ⟨dst, op, type, pos, after, guard⟩ := o
  have nofresh : ∀ nm, H nm ≠ none → Fresh nm E H → False := fun nm h1 h2 => h1 h2.1
  unfold outOf at hpre hf ⊢
  simp only at hd
  split at hpre <;> simp only [*] at hf ⊢ <;> rename_i hop <;> simp only at hop <;> (try subst hop)
  · exact sem_move hd
  · exact sem_assign hd
  · exact sem_pick hd hpre
  · rename_i op t x y _
    by_cases hy : isNilC y = true
    · simp only [hy, if_true] at hpre ⊢
      exact sem_nilEq hd hy hpre
    · simp only [hy, if_false] at hpre ⊢
      exact sem_bin hd hpre
  · exact sem_un hd hpre
  · exact sem_extract hd hpre
  · exact sem_makeFunc hd hpre
  · exact sem_conv0 hd hpre
  · exact sem_nilCheck hd hpre
  · exact sem_fieldAddr hd hpre
  · exact sem_field hd hpre
  · exact sem_load hd hpre
  · exact sem_store hd hpre
  · exact sem_indexAddr hd hpre
  · exact sem_index hd hpre
  · exact sem_slice hd hpre
  · exact sem_slice0 hd hpre
  · exact sem_alloc hd (hf _ _ (List.mem_singleton.2 rfl) hpre.1) hpre.2
  · exact sem_box hd (hf _ _ (List.mem_singleton.2 rfl) hpre.1) hpre.2
  · exact sem_build hd hpre
  · exact sem_buildSlice hd (hf _ _ (List.mem_cons_self ..) hpre.1) hpre.2
  · by_cases hnb : 100000 ≤ nb
    · simp only [hnb, if_true] at hpre hf ⊢
      obtain ⟨x, hx⟩ := aMakeBox_mem hpre.2
      exact sem_makeBox hd (hf _ x hx hpre.1) hpre.2
    · simp only [hnb, if_false] at hpre hf ⊢
      obtain ⟨x, hx⟩ := aMake_mem hpre.2
      exact sem_make hd (hf _ x hx hpre.1) hpre.2
  · exact sem_len hd hpre
  · exact sem_min hd hpre
  · exact sem_max hd hpre
  · rename_i x y t u
    by_cases htu : t = u
    · subst htu
      simp only [if_true] at hpre hf ⊢
      exact sem_append hd (fun o hx hn => hf _ o hx hn) hpre
    · simp only [htu, if_false] at hpre
      exact hpre.elim
  · exact sem_copy hd hpre
  · exact hpre.elim
end Go.AX
set_option linter.unusedVariables false
set_option linter.unusedSimpArgs false
namespace Go.AX

section congr
variable {H H' : HF}

theorem ok1_congr {x : AV} (h : ∀ i ∈ x.ids, H' i = H i) : x.ok1 H' = x.ok1 H := by
  cases x <;> simp [AV.ids, AV.ok1] at h ⊢ <;> rw [h]
theorem ok2_congr {x : AV} (h : ∀ i ∈ x.ids, H' i = H i) : x.ok2 H' = x.ok2 H := by
  cases x <;> simp only [AV.ok2] <;> exact ok1_congr h
theorem okL_congr : ∀ {xs : List AV}, (∀ i ∈ AV.idsL xs, H' i = H i) → okL H' xs = okL H xs
  | [], _ => rfl
  | x :: r, h => by
    simp only [okL, AV.idsL, List.mem_append] at h ⊢
    rw [ok2_congr fun i hi => h i (.inl hi), okL_congr fun i hi => h i (.inr hi)]
theorem avD_congr {x : AV} (h : ∀ i ∈ x.ids, H' i = H i) : avD H' x = avD H x := by
  cases x with
  | box id o => have e := h id (by simp [AV.ids]); simp only [avD, e]
  | elt id i o n => have e := h id (by simp [AV.ids]); simp only [avD, e]
  | arr id off len => have e := h id (by simp [AV.ids]); simp only [avD, e]
  | _ => rfl
theorem avDp_congr {x : AV} (h : ∀ i ∈ x.ids, H' i = H i) : avDp H' x = avDp H x := by
  cases x with
  | box id o => have e := h id (by simp [AV.ids]); simp only [avDp, e]
  | elt id i o n => have e := h id (by simp [AV.ids]); simp only [avDp, e]
  | arr id off len => have e := h id (by simp [AV.ids]); simp only [avDp, e]
  | _ => rfl
theorem avDps_congr : ∀ {xs : List AV}, (∀ i ∈ AV.idsL xs, H' i = H i) → avDps H' xs = avDps H xs
  | [], _ => rfl
  | x :: r, h => by
    simp only [avDps, AV.idsL, List.mem_append] at h ⊢
    rw [avDp_congr fun i hi => h i (.inl hi), avDps_congr fun i hi => h i (.inr hi)]
theorem avDs_congr : ∀ {xs : List AV}, (∀ i ∈ AV.idsL xs, H' i = H i) → xs.map (avD H') = xs.map (avD H)
  | [], _ => rfl
  | x :: r, h => by
    simp only [List.map_cons, AV.idsL, List.mem_append] at h ⊢
    rw [avD_congr fun i hi => h i (.inl hi), avDs_congr fun i hi => h i (.inr hi)]
theorem esOf_congr {x : AV} (h : ∀ i ∈ x.ids, H' i = H i) : esOf H' x = esOf H x := by
  cases x with
  | box id o => have e := h id (by simp [AV.ids]); simp only [esOf, e]
  | elt id i o n => have e := h id (by simp [AV.ids]); simp only [esOf, e]
  | arr id off len => have e := h id (by simp [AV.ids]); simp only [esOf, e]
  | d y => cases y <;> rfl
  | _ => rfl
theorem esOfP_congr {x : AV} (h : ∀ i ∈ x.ids, H' i = H i) : esOfP H' x = esOfP H x := by
  cases x with
  | box id o => have e := h id (by simp [AV.ids]); simp only [esOfP, e]
  | elt id i o n => have e := h id (by simp [AV.ids]); simp only [esOfP, e]
  | arr id off len => have e := h id (by simp [AV.ids]); simp only [esOfP, e]
  | d y => cases y <;> rfl
  | _ => rfl
theorem fillP_congr (place : Nat → Option (Nat × Nat)) : ∀ (ps : List (Nat × AV)) (cs : List AV), (∀ i ∈ AV.idsL (ps.map (·.2)), H' i = H i) → fillP H' place cs ps = fillP H place cs ps
  | [], _, _ => rfl
  | (i, x) :: r, cs, h => by
    simp only [List.map_cons, AV.idsL, List.mem_append] at h
    simp only [fillP]
    cases place i with
    | none => rfl
    | some os =>
      obtain ⟨off, sz⟩ := os
      simp only
      rw [ok1_congr fun i hi => h i (.inl hi), fillP_congr place r _ fun i hi => h i (.inr hi)]
theorem elP_congr (sz : Nat) : ∀ (ps : List (Nat × AV)), (∀ i ∈ AV.idsL (ps.map (·.2)), H' i = H i) → elP H' sz ps = elP H sz ps
  | [], _ => rfl
  | (i, x) :: r, h => by
    simp only [List.map_cons, AV.idsL, List.mem_append] at h
    simp only [elP]
    rw [ok1_congr fun i hi => h i (.inl hi), elP_congr sz r fun i hi => h i (.inr hi), avDps_congr fun i hi => h i (.inl (by rwa [AV.ids_cells] at hi))]
theorem elD_congr : ∀ (ps : List (Nat × AV)), (∀ i ∈ AV.idsL (ps.map (·.2)), H' i = H i) → (ps.map fun p => p.2.cells.map (avD H')) = ps.map fun p => p.2.cells.map (avD H)
  | [], _ => rfl
  | (i, x) :: r, h => by
    simp only [List.map_cons, AV.idsL, List.mem_append] at h
    simp only [List.map_cons]
    rw [elD_congr r fun i hi => h i (.inr hi), avDs_congr fun i hi => h i (.inl (by rwa [AV.ids_cells] at hi))]

theorem aNilCheck_congr {x : AV} (h : ∀ i ∈ x.ids, H' i = H i) : aNilCheck x H' = aNilCheck x H := by
  cases x with
  | box id o => have e := h id (by simp [AV.ids]); simp only [aNilCheck, e]
  | elt id i o n => have e := h id (by simp [AV.ids]); simp only [aNilCheck, e]
  | arr id off len => have e := h id (by simp [AV.ids]); simp only [aNilCheck, e]
  | _ => rfl
theorem aFieldAddr_congr {P s f} {x : AV} (h : ∀ i ∈ x.ids, H' i = H i) : aFieldAddr P s x f H' = aFieldAddr P s x f H := by
  cases x with
  | box id o => have e := h id (by simp [AV.ids]); simp only [aFieldAddr, e]
  | elt id i o n => have e := h id (by simp [AV.ids]); simp only [aFieldAddr, e]
  | arr id off len => have e := h id (by simp [AV.ids]); simp only [aFieldAddr, e]
  | _ => rfl
theorem aLoad_congr {P t} {x : AV} (h : ∀ i ∈ x.ids, H' i = H i) : aLoad P t x H' = aLoad P t x H := by
  cases x with
  | box id o => have e := h id (by simp [AV.ids]); simp only [aLoad, e]
  | elt id i o n => have e := h id (by simp [AV.ids]); simp only [aLoad, e]
  | arr id off len => have e := h id (by simp [AV.ids]); simp only [aLoad, e]
  | _ => rfl
theorem aStore_congr {P t} {x y : AV} (h : ∀ i ∈ x.ids ++ y.ids, H' i = H i) : aStore P t x y H' = aStore P t x y H := by
  have hx : ∀ i ∈ x.ids, H' i = H i := fun i hi => h i (List.mem_append.2 (.inl hi))
  have hy : ∀ i ∈ y.ids, H' i = H i := fun i hi => h i (List.mem_append.2 (.inr hi))
  have hy2 : ∀ i ∈ AV.idsL y.cells, H' i = H i := by rw [AV.ids_cells]; exact hy
  unfold aStore
  cases x <;> simp only [AV.ids, List.mem_singleton, forall_eq] at hx ⊢
  · rw [hx, ok1_congr hy, okL_congr hy2]
  · rw [hx, ok1_congr hy, avDps_congr hy2, avDs_congr hy2]
theorem aIndexAddr_congr {P t} {x j : AV} (h : ∀ i ∈ x.ids, H' i = H i) : aIndexAddr P t x j H' = aIndexAddr P t x j H := by
  cases x with
  | arr id off len =>
    have e := h id (by simp [AV.ids])
    cases j with
    | d y => cases y <;> first | rfl | simp only [aIndexAddr, e]
    | _ => rfl
  | d z =>
    cases j with
    | d y => cases z <;> cases y <;> rfl
    | _ => cases z <;> rfl
  | _ => cases j <;> rfl
theorem aSlice_congr {P t lo hi} {x : AV} (h : ∀ i ∈ x.ids, H' i = H i) : aSlice P t x lo hi H' = aSlice P t x lo hi H := by
  cases x with
  | box id o => have e := h id (by simp [AV.ids]); simp only [aSlice, e]
  | elt id i o n => have e := h id (by simp [AV.ids]); simp only [aSlice, e]
  | arr id off len => have e := h id (by simp [AV.ids]); simp only [aSlice, e]
  | d y => cases y <;> rfl
  | _ => rfl
theorem aSlice0_congr {P t hi mx} {x : AV} (h : ∀ i ∈ x.ids, H' i = H i) : aSlice0 P t x hi mx H' = aSlice0 P t x hi mx H := by
  cases x with
  | box id o => have e := h id (by simp [AV.ids]); simp only [aSlice0, e]
  | elt id i o n => have e := h id (by simp [AV.ids]); simp only [aSlice0, e]
  | arr id off len => have e := h id (by simp [AV.ids]); simp only [aSlice0, e]
  | d y => cases y <;> (unfold aSlice0; rfl)
  | _ => rfl
theorem aLen_congr {P t} {x : AV} (h : ∀ i ∈ x.ids, H' i = H i) : aLen P t x H' = aLen P t x H := by
  cases x with
  | box id o => have e := h id (by simp [AV.ids]); simp only [aLen, e]
  | elt id i o n => have e := h id (by simp [AV.ids]); simp only [aLen, e]
  | arr id off len => have e := h id (by simp [AV.ids]); simp only [aLen, e]
  | d y => cases y <;> rfl
  | _ => rfl
theorem aBox_congr {nm} {x : AV} (h : ∀ i ∈ x.ids, H' i = H i) : aBox nm x H' = aBox nm x H := by
  unfold aBox; rw [ok1_congr h]
theorem aBuild_congr {P t ps} (h : ∀ i ∈ AV.idsL (ps.map (·.2)), H' i = H i) : aBuild P t ps H' = aBuild P t ps H := by
  unfold aBuild
  simp only [fillP_congr _ ps _ h]
theorem aBuildSlice_congr {P nm t len ps} (h : ∀ i ∈ AV.idsL (ps.map (·.2)), H' i = H i) : aBuildSlice P nm t len ps H' = aBuildSlice P nm t len ps H := by
  unfold aBuildSlice
  rw [elP_congr _ ps h, elD_congr ps h]
theorem aAppend_congr {P nm t} {x y : AV} (hn : H' nm = H nm) (h : ∀ i ∈ x.ids ++ y.ids, H' i = H i) : aAppend P nm t x y H' = aAppend P nm t x y H := by
  have hx : ∀ i ∈ x.ids, H' i = H i := fun i hi => h i (List.mem_append.2 (.inl hi))
  have hy : ∀ i ∈ y.ids, H' i = H i := fun i hi => h i (List.mem_append.2 (.inr hi))
  have e1 := esOf_congr hy
  have e2 := esOfP_congr hy
  cases x with
  | nils => simp only [aAppend, e1, e2, hn]
  | arr id off len =>
    have e := hx id (by simp [AV.ids])
    cases off with
    | zero => simp only [aAppend, e, e1, e2, hn]
    | succ k => rfl
  | _ => rfl
end congr

theorem outOf_congr {P nb} {o : Oper} {E E' : EF} {H H' : HF} (he : ∀ x ∈ o.op.operands, evalA E' x = evalA E x) (hh : ∀ i ∈ (outOf P nb o E H).2, H' i = H i) :
    outOf P nb o E' H' = outOf P nb o E H := by
  obtain ⟨dst, op, type, pos, after, guard⟩ := o
  have pairs : ∀ ps : List (Nat × Operand), (∀ x ∈ ps.map (·.2), evalA E' x = evalA E x) → (ps.map fun p => (p.1, evalA E' p.2)) = ps.map fun p => (p.1, evalA E p.2) := fun ps hp =>
    List.map_congr_left fun p hm => by rw [hp p.2 (List.mem_map.2 ⟨p, hm, rfl⟩)]
  have pairs2 : ∀ ps : List (Nat × Operand), (∀ x ∈ ps.map (·.2), evalA E' x = evalA E x) → (ps.map fun p => evalA E' p.2) = ps.map fun p => evalA E p.2 := fun ps hp =>
    List.map_congr_left fun p hm => by rw [hp p.2 (List.mem_map.2 ⟨p, hm, rfl⟩)]
  have snd : ∀ ps : List (Nat × Operand), (ps.map fun p => (p.1, evalA E p.2)).map (·.2) = ps.map fun p => evalA E p.2 := fun ps => by simp [Function.comp_def]
  cases op with
  | move x => have := he x (by simp [Op.operands]); simp only [outOf, this]
  | assign x => have := he x (by simp [Op.operands]); simp only [outOf, this]
  | pick c x y =>
    have h1 := he c (by simp [Op.operands]); have h2 := he x (by simp [Op.operands]); have h3 := he y (by simp [Op.operands])
    simp only [outOf, h1, h2, h3]
  | binOp b t x y u =>
    have h1 := he x (by simp [Op.operands]); have h2 := he y (by simp [Op.operands])
    simp only [outOf, h1, h2]
  | unOp b t x => have := he x (by simp [Op.operands]); simp only [outOf, this]
  | extract x i => have := he x (by simp [Op.operands]); simp only [outOf, this]
  | makeFunc f first caps =>
    have h1 : first.toList.map (evalA E') = first.toList.map (evalA E) := List.map_congr_left fun x hx => he x (by simp [Op.operands]; exact .inl (by simpa using hx))
    have h2 : caps.toList.map (evalA E') = caps.toList.map (evalA E) := List.map_congr_left fun x hx => he x (by simp [Op.operands]; exact .inr (by simpa using hx))
    simp only [outOf, h1, h2]
  | convert a b x =>
    have h1 := he x (by simp [Op.operands])
    simp only [outOf] at hh ⊢
    rw [h1, aConv_congr hh]
  | nilCheck x =>
    have h1 := he x (by simp [Op.operands])
    simp only [outOf] at hh ⊢
    rw [h1, aNilCheck_congr hh]
  | fieldAddr s x f =>
    have h1 := he x (by simp [Op.operands])
    simp only [outOf] at hh ⊢
    rw [h1, aFieldAddr_congr hh]
  | field s x f => have := he x (by simp [Op.operands]); simp only [outOf, this]
  | load t x =>
    have h1 := he x (by simp [Op.operands])
    simp only [outOf] at hh ⊢
    rw [h1, aLoad_congr hh]
  | store t x y =>
    have h1 := he x (by simp [Op.operands]); have h2 := he y (by simp [Op.operands])
    simp only [outOf] at hh ⊢
    rw [h1, h2, aStore_congr hh]
  | indexAddr t x i =>
    have h1 := he x (by simp [Op.operands]); have h2 := he i (by simp [Op.operands])
    simp only [outOf] at hh ⊢
    rw [h1, h2, aIndexAddr_congr hh]
  | index t x i =>
    have h1 := he x (by simp [Op.operands]); have h2 := he i (by simp [Op.operands])
    simp only [outOf, h1, h2]
  | slice t x lo hi mx =>
    have h1 := he x (by simp [Op.operands])
    cases mx with
    | none =>
      have h2 : lo.map (evalA E') = lo.map (evalA E) := by
        cases lo with
        | none => rfl
        | some y => simp [he y (by simp [Op.operands])]
      have h3 : hi.map (evalA E') = hi.map (evalA E) := by
        cases hi with
        | none => rfl
        | some y => simp [he y (by simp [Op.operands])]
      simp only [outOf] at hh ⊢
      rw [h1, h2, h3, aSlice_congr hh]
    | some m =>
      have h4 := he m (by simp [Op.operands])
      cases hi with
      | none => cases lo <;> rfl
      | some z =>
        have h3 := he z (by simp [Op.operands])
        cases lo with
        | some l => rfl
        | none =>
          simp only [outOf] at hh ⊢
          rw [h1, h3, h4, aSlice0_congr hh]
  | alloc t =>
    simp only [outOf, List.mem_singleton, forall_eq] at hh ⊢
    simp only [aNew, hh]
  | box t x =>
    have h1 := he x (by simp [Op.operands])
    simp only [outOf, List.mem_cons, forall_eq_or_imp] at hh ⊢
    rw [h1, aBox_congr hh.2]
    simp only [aNew, hh.1]
  | build t ps =>
    have h1 := pairs ps.toList fun x hx => he x (by simpa [Op.operands] using hx)
    have h2 := pairs2 ps.toList fun x hx => he x (by simpa [Op.operands] using hx)
    simp only [outOf] at hh ⊢
    rw [h1, h2, aBuild_congr (by rw [snd]; exact hh)]
  | buildSlice t len ps =>
    have h1 := pairs ps.toList fun x hx => he x (by simpa [Op.operands] using hx)
    have h2 := pairs2 ps.toList fun x hx => he x (by simpa [Op.operands] using hx)
    simp only [outOf, List.mem_cons, forall_eq_or_imp] at hh ⊢
    rw [h1, h2, aBuildSlice_congr (by rw [snd]; exact hh.2)]
    simp only [aNew, hh.1]
  | makeSlice t l c =>
    have h1 := he l (by simp [Op.operands]); have h2 := he c (by simp [Op.operands])
    simp only [outOf, List.mem_singleton, forall_eq] at hh ⊢
    simp only [aNew, hh, h1, h2]
  | call c =>
    obtain ⟨callee, args, ts⟩ := c
    have hargs : ∀ x ∈ args, evalA E' x = evalA E x := fun x hx => he x (by simp [Op.operands, Call.operands]; exact .inr hx)
    cases callee with
    | value f => rfl
    | invoke r m => rfl
    | builtin b =>
      obtain ⟨l⟩ := args
      obtain ⟨ts⟩ := ts
      cases b <;> try rfl
      · match l, ts, hargs, hh with
        | [x, y], [t, u], hargs, hh =>
          have h1 := hargs x (by simp); have h2 := hargs y (by simp)
          simp only [outOf, List.mem_cons, forall_eq_or_imp] at hh ⊢
          rw [h1, h2, aAppend_congr hh.1 hh.2]
        | [], _, _, _ => rfl
        | [_], _, _, _ => rfl
        | [_, _], [], _, _ => rfl
        | [_, _], [_], _, _ => rfl
        | [_, _], _ :: _ :: _ :: _, _, _ => rfl
        | _ :: _ :: _ :: _, _, _, _ => rfl
      · match l, ts, hargs, hh with
        | [x, y], [t, u], hargs, hh =>
          have h1 := hargs x (by simp); have h2 := hargs y (by simp)
          simp only [outOf] at hh ⊢
          rw [h1, h2, aCopy_congr hh]
        | [], _, _, _ => rfl
        | [_], _, _, _ => rfl
        | [_, _], [], _, _ => rfl
        | [_, _], [_], _, _ => rfl
        | [_, _], _ :: _ :: _ :: _, _, _ => rfl
        | _ :: _ :: _ :: _, _, _, _ => rfl
      · match l, ts, hargs, hh with
        | [x], [t], hargs, hh =>
          have h1 := hargs x (by simp)
          simp only [outOf] at hh ⊢
          rw [h1, aLen_congr hh]
        | [], _, _, _ => rfl
        | _ :: _ :: _, _, _, _ => rfl
        | [_], [], _, _ => rfl
        | [_], _ :: _ :: _, _, _ => rfl
      · match l, hargs with
        | [x, y], hargs =>
          have h1 := hargs x (by simp); have h2 := hargs y (by simp)
          simp only [outOf, h1, h2]
        | [], _ => rfl
        | [_], _ => rfl
        | _ :: _ :: _ :: _, _ => rfl
      · match l, hargs with
        | [x, y], hargs =>
          have h1 := hargs x (by simp); have h2 := hargs y (by simp)
          simp only [outOf, h1, h2]
        | [], _ => rfl
        | [_], _ => rfl
        | _ :: _ :: _ :: _, _ => rfl
  | _ => rfl
end Go.AX
set_option linter.unusedVariables false
set_option linter.unusedSimpArgs false
namespace Go.AX

/-- The contract of a function: called with these arguments in a heap of these objects it returns this value and leaves these objects. -/
def ACalls (P : Program) (f : FuncId) (args : List AV) (h : HL) (r : AV) (h' : HL) : Prop :=
  (∃ fn, P.funcs[f]? = some fn ∧ fn.body.isNone = false ∧ (fn.name == "runtime.NumGoroutine") = false) ∧
  ∀ A β w (vs : Array Value), RepVs w A β (hget h) args vs.toList → HRel w A β (hget h) →
    Calls P f vs w (fun e w' => ∃ v A' β', e = .returned v ∧ RepV w' A' β' (hget h') r v ∧ HRel w' A' β' (hget h') ∧ Trans w A β (hget h) w' A' β' (hget h'))

theorem run_call {P : Program} {w : World} {ρ : Operand → Value} {d fo args ts t p e g} {f : FuncId} {caps : Array Value} (hf : ρ fo = .func (.func f) #[] caps)
    (hb : ∃ fn, P.funcs[f]? = some fn ∧ fn.body.isNone = false ∧ (fn.name == "runtime.NumGoroutine") = false) :
    (execOp ρ ⟨d, .call { callee := .value fo, args := args, argTypes := ts }, t, p, e, g⟩).run P w = .ok (.enter f (args.map ρ ++ caps)) w := by
  obtain ⟨fn, h1, h2, h3⟩ := hb
  simp only [execOp, resolve, hf, Deferred.ofValue, Sem.run_bind, Sem.run_pure, Result.andThen_ok, invoke, callFunc, run_program, h1, h3, h2, Bool.false_eq_true, if_false, Array.empty_append]

/-- From the contract to the operation: what is left is to put the callee's heap back into the caller's. -/
theorem OSem.call {P n d fo args ts t p e g E H f caps h r0 h' r u} (hd : ∀ i, d = some i → i < n) (hf : evalA E fo = .fn f caps) {args' : List AV} (hc : ACalls P f args' h r0 h')
    (hin : ∀ A β a w, CfgF n A β E H a w → ∃ A1 β1, (∀ vs, RepVs w A β H (args.toList.map (evalA E) ++ caps) vs → RepVs w A1 β1 (hget h) args' vs) ∧ HRel w A1 β1 (hget h) ∧
      ∀ w' A' β' v, RepV w' A' β' (hget h') r0 v → HRel w' A' β' (hget h') → Trans w A1 β1 (hget h) w' A' β' (hget h') →
        ∃ A2 β2, CfgF n A2 β2 E (updF H u) a w' ∧ RepV w' A2 β2 (updF H u) r v ∧ Trans w A β H w' A2 β2 (updF H u)) :
    OSem P n ⟨d, .call { callee := .value fo, args := args, argTypes := ts }, t, p, e, g⟩ E H r u := by
  intro A β a w hcfg
  have h1 := hcfg.eval fo
  rw [hf] at h1
  simp only [RepV] at h1
  obtain ⟨cs, e1, hcs⟩ := h1
  obtain ⟨A1, β1, g1, g2, g3⟩ := hin A β a w hcfg
  have hargs := evalL_rep hcfg args.toList
  have hall := g1 _ (hargs.append hcs)
  have hcall := hc.2 A1 β1 w (args.map a.eval ++ cs) (by simpa using hall) g2
  simp only [Oper.wp, run_call e1 hc.1, Oper.upon]
  refine Calls.mono hcall fun en w' => ?_
  rintro ⟨v, A', β', rfl, k1, k2, k3⟩
  obtain ⟨A2, β2, m1, m2, m3⟩ := g3 w' A' β' v k1 k2 k3
  exact ⟨A2, β2, m1.put hd m2, m3⟩

def D.flat : D → Bool
  | .sl _ => false
  | _ => true
mutual
def AV.flat : AV → Bool
  | .d x => x.flat
  | .agg cs => AV.flatL cs
  | .tup cs => AV.flatL cs
  | .arr _ _ _ => true
  | .any => true
  | .nils => true
  | .nilp => true
  | _ => false
def AV.flatL : List AV → Bool
  | [] => true
  | x :: r => x.flat && AV.flatL r
end

mutual
def AV.view (H : HF) : AV → AV
  | .arr id off len => .d (avD H (.arr id off len))
  | .nils => .d (.sl [])
  | .agg cs => .agg (AV.views H cs)
  | .tup cs => .tup (AV.views H cs)
  | .fn f caps => .fn f (AV.views H caps)
  | x => x
def AV.views (H : HF) : List AV → List AV
  | [] => []
  | x :: r => x.view H :: AV.views H r
end
mutual
/-- The ids are those of whole arrays alone. -/
def AV.viewP (H : HF) : AV → Prop
  | .arr id off len => avDp H (.arr id off len)
  | .agg cs => AV.viewPs H cs
  | .tup cs => AV.viewPs H cs
  | .fn _ caps => AV.viewPs H caps
  | .box _ _ => False
  | .elt _ _ _ _ => False
  | _ => True
def AV.viewPs (H : HF) : List AV → Prop
  | [] => True
  | x :: r => x.viewP H ∧ AV.viewPs H r
end

mutual
theorem CfgF.view_rep {n A β E H a w} (h : CfgF n A β E H a w) (ids : List Nat) : ∀ (x : AV) (v : Value), RepV w A β H x v → x.viewP H → (∀ i ∈ x.ids, i ∈ ids) →
    RepV w (fun b => A b ∨ ∃ i ∈ ids, H i ≠ none ∧ β i = some b) (fun _ => none) (fun _ => none) (x.view H) v
  | .any, v, _, _, _ => by simp only [AV.view, RepV]
  | .d x, v, hx, _, _ => by
    simp only [AV.view, RepV] at hx ⊢
    exact RepD.stable (fun _ h => .inl h) (fun _ _ => rfl) _ _ hx
  | .nils, v, hx, _, _ => by
    simp only [AV.view, RepV, RepD] at hx ⊢
    obtain ⟨a, rfl⟩ := hx
    exact ⟨a, 0, by simp, by simp, trivial, by simp⟩
  | .nilp, v, hx, _, _ => by simpa only [AV.view, RepV] using hx
  | .nl _, v, hx, _, _ => by simpa only [AV.view, RepV] using hx
  | .ref cs, v, hx, _, _ => by
    simp only [AV.view, RepV] at hx ⊢
    obtain ⟨b, o, e, hA, hr⟩ := hx
    exact ⟨b, o, e, .inl hA, RepCs.stable (fun _ h => .inl h) (fun _ _ => rfl) b rfl o cs hr⟩
  | .box id o, v, _, hp, _ => by simp only [AV.viewP] at hp
  | .elt id i o m, v, _, hp, _ => by simp only [AV.viewP] at hp
  | .arr id off len, v, hx, hp, hi => by
    simp only [AV.view, RepV]
    exact h.avD_rep ids hx (by simpa only [AV.viewP] using hp) hi
  | .fn f caps, v, hx, hp, hi => by
    simp only [AV.view, RepV] at hx ⊢
    obtain ⟨cs, e, hc⟩ := hx
    exact ⟨cs, e, CfgF.views_rep h ids caps cs.toList hc (by simpa only [AV.viewP] using hp) (by simpa only [AV.ids] using hi)⟩
  | .agg cs, v, hx, hp, hi => by
    simp only [AV.view, RepV] at hx ⊢
    obtain ⟨vs, e, hc⟩ := hx
    exact ⟨vs, e, CfgF.views_rep h ids cs vs.toList hc (by simpa only [AV.viewP] using hp) (by simpa only [AV.ids] using hi)⟩
  | .tup cs, v, hx, hp, hi => by
    simp only [AV.view, RepV] at hx ⊢
    obtain ⟨vs, e, hc⟩ := hx
    exact ⟨vs, e, CfgF.views_rep h ids cs vs.toList hc (by simpa only [AV.viewP] using hp) (by simpa only [AV.ids] using hi)⟩
theorem CfgF.views_rep {n A β E H a w} (h : CfgF n A β E H a w) (ids : List Nat) : ∀ (xs : List AV) (vs : List Value), RepVs w A β H xs vs → AV.viewPs H xs → (∀ i ∈ AV.idsL xs, i ∈ ids) →
    RepVs w (fun b => A b ∨ ∃ i ∈ ids, H i ≠ none ∧ β i = some b) (fun _ => none) (fun _ => none) (AV.views H xs) vs
  | [], vs, hx, _, _ => by simpa only [AV.views, RepVs] using hx
  | x :: r, vs, hx, hp, hi => by
    simp only [AV.views, RepVs] at hx ⊢
    obtain ⟨v, t, e, h1, h2⟩ := hx
    simp only [AV.viewPs] at hp
    exact ⟨v, t, e, CfgF.view_rep h ids x v h1 hp.1 (fun i hm => hi i (by simp [AV.idsL, hm])), CfgF.views_rep h ids r t h2 hp.2 (fun i hm => hi i (by simp [AV.idsL, hm]))⟩
end

mutual
theorem RepV.flat {w A A' β H} : ∀ (x : AV) (v : Value), x.flat = true → RepV w A β H x v → RepV w A' β H x v
  | .any, v, _, _ => by simp only [RepV]
  | .d x, v, hf, h => by
    cases x with
    | sl es => simp [AV.flat, D.flat] at hf
    | _ => simpa only [RepV, RepD] using h
  | .arr id off len, v, _, h => by simpa only [RepV] using h
  | .agg cs, v, hf, h => by
    simp only [RepV] at h ⊢
    obtain ⟨vs, e, hc⟩ := h
    exact ⟨vs, e, RepVs.flat cs vs.toList (by simpa only [AV.flat] using hf) hc⟩
  | .tup cs, v, hf, h => by
    simp only [RepV] at h ⊢
    obtain ⟨vs, e, hc⟩ := h
    exact ⟨vs, e, RepVs.flat cs vs.toList (by simpa only [AV.flat] using hf) hc⟩
  | .nils, v, _, h => by simpa only [RepV] using h
  | .nilp, v, _, h => by simpa only [RepV] using h
  | .nl _, v, hf, _ => by simp [AV.flat] at hf
  | .ref _, v, hf, _ => by simp [AV.flat] at hf
  | .box _ _, v, hf, _ => by simp [AV.flat] at hf
  | .elt _ _ _ _, v, hf, _ => by simp [AV.flat] at hf
  | .fn _ _, v, hf, _ => by simp [AV.flat] at hf
theorem RepVs.flat {w A A' β H} : ∀ (xs : List AV) (vs : List Value), AV.flatL xs = true → RepVs w A β H xs vs → RepVs w A' β H xs vs
  | [], vs, _, h => by simpa only [RepVs] using h
  | x :: r, vs, hf, h => by
    simp only [RepVs] at h ⊢
    obtain ⟨v, t, e, h1, h2⟩ := h
    simp only [AV.flatL, Bool.and_eq_true] at hf
    exact ⟨v, t, e, RepV.flat x v hf.1 h1, RepVs.flat r t hf.2 h2⟩
end

theorem RepDs.flat {w A A'} : ∀ {ds : List D} {vs : List Value}, (∀ d ∈ ds, d.flat = true) → RepDs w A ds vs → RepDs w A' ds vs
  | [], vs, _, h => by simpa only [RepDs] using h
  | d :: r, vs, hf, h => by
    simp only [RepDs] at h ⊢
    obtain ⟨v, t, e, h1, h2⟩ := h
    refine ⟨v, t, e, ?_, RepDs.flat (fun d hd => hf d (by simp [hd])) h2⟩
    have := hf d (by simp)
    cases d with
    | sl es => simp [D.flat] at this
    | _ => simpa only [RepD] using h1

/-- New objects of a callee: arrays alone. -/
def arrsOnly : HL → Prop
  | [] => True
  | (_, some (.arr _ _ _)) :: r => arrsOnly r
  | _ => False
def flatObjs : HL → Prop
  | [] => True
  | (_, some (.arr _ _ es)) :: r => (∀ e ∈ es, ∀ d ∈ e, D.flat d = true) ∧ flatObjs r
  | _ => False

theorem arrsOnly_get : ∀ {u : HL}, arrsOnly u → ∀ i o, hget u i = some o → ∃ T sz es, o = .arr T sz es
  | [], _, i, o, h => by simp [hget] at h
  | (j, some (.arr T sz es)) :: r, hu, i, o, h => by
    simp only [hget] at h
    split at h
    · cases h; exact ⟨T, sz, es, rfl⟩
    · exact arrsOnly_get (by simpa only [arrsOnly] using hu) i o h
  | (j, none) :: r, hu, _, _, _ => by simp only [arrsOnly] at hu
  | (j, some (.box _)) :: r, hu, _, _, _ => by simp only [arrsOnly] at hu
theorem flatObjs_get : ∀ {u : HL}, flatObjs u → ∀ i T sz es, hget u i = some (.arr T sz es) → ∀ e ∈ es, ∀ d ∈ e, D.flat d = true
  | [], _, i, T, sz, es, h => by simp [hget] at h
  | (j, some (.arr T0 sz0 es0)) :: r, hu, i, T, sz, es, h => by
    simp only [flatObjs] at hu
    simp only [hget] at h
    split at h
    · cases h; exact hu.1
    · exact flatObjs_get hu.2 i T sz es h
  | (j, none) :: r, hu, _, _, _, _, _ => by simp only [flatObjs] at hu
  | (j, some (.box _)) :: r, hu, _, _, _, _, _ => by simp only [flatObjs] at hu
theorem hget_mem : ∀ {u : HL} {i : Nat} {o : AObj}, hget u i = some o → i ∈ u.map (·.1)
  | [], i, o, h => by simp [hget] at h
  | (j, x) :: r, i, o, h => by
    simp only [hget] at h
    split at h
    · rename_i e; subst e; simp
    · exact List.mem_cons_of_mem _ (hget_mem h)
theorem updF_get (H : HF) : ∀ (u : HL) (i : Nat), updF H u i = if i ∈ u.map (·.1) then hget u i else H i
  | [], i => by simp [updF]
  | (j, x) :: r, i => by
    simp only [updF, hget, List.map_cons, List.mem_cons]
    by_cases e : i = j
    · simp [e]
    · rw [if_neg e, if_neg e, updF_get H r i]
      by_cases hm : i ∈ r.map (·.1)
      · rw [if_pos hm, if_pos (.inr hm)]
      · rw [if_neg hm, if_neg (by rintro (h | h); exact e h; exact hm h)]

/-- New objects join the heap. -/
theorem CfgF.join {n A β E H a w} (h : CfgF n A β E H a w) {w' A' β' u A2} (hA2 : ∀ b, A b → A2 b) (hA2' : ∀ b, A2 b → A b ∨ w.heap.size ≤ b) (hA2b : ∀ b, A2 b → b < w'.heap.size)
    (hA2s : ∀ i b, hget u i ≠ none → β' i = some b → ¬ A2 b)
    (hr : HRel w' A' β' (hget u)) (hu : arrsOnly u) (hrep : ∀ i T sz es b, hget u i = some (.arr T sz es) → RepEs w' A' b sz 0 es → RepEs w' A2 b sz 0 es)
    (ht : ∀ b : Nat, b < w.heap.size → w'.heap[b]? = w.heap[b]?) (hsz : w.heap.size ≤ w'.heap.size) (hos : w'.os = w.os) (htp : w'.tape = w.tape) (hout : w'.output = w.output)
    (hown : ∀ i b, hget u i ≠ none → β' i = some b → w.heap.size ≤ b) (hfr : ∀ i, i ∈ u.map (·.1) → Fresh i E H) :
    CfgF n A2 (fun i => if i ∈ u.map (·.1) then β' i else β i) E (updF H u) a w' ∧
    Trans w A β H w' A2 (fun i => if i ∈ u.map (·.1) then β' i else β i) (updF H u) := by
  have hs : ∀ b, A b → w'.heap[b]? = w.heap[b]? := fun b hb => ht b (h.heap.bound b hb)
  have hold : ∀ i, i ∉ u.map (·.1) → updF H u i = H i := fun i hi => by rw [updF_get, if_neg hi]
  have hnew : ∀ i, i ∈ u.map (·.1) → updF H u i = hget u i := fun i hi => by rw [updF_get, if_pos hi]
  have idok : ∀ i o', updF H u i = some o' → (∃ o, H i = some o ∧ Keep w w' β (fun i => if i ∈ u.map (·.1) then β' i else β i) i o o') ∨ Fresh i E H := fun i o' ho' => by
    by_cases hi : i ∈ u.map (·.1)
    · exact .inr (hfr i hi)
    · rw [hold i hi] at ho'
      refine .inl ⟨o', ho', ?_⟩
      cases o' with
      | pre _ => exact ⟨by simp only [hi, if_false], fun b hb => blkSize_of_heap (ht b (h.heap.lt (by simp [ho']) hb))⟩
      | box _ => exact ⟨by simp only [hi, if_false], fun b hb => blkSize_of_heap (ht b (h.heap.lt (by simp [ho']) hb))⟩
      | arr _ _ _ => exact ⟨rfl, rfl, Nat.le_refl _, fun _ => ⟨by simp only [hi, if_false], fun b hb => blkSize_of_heap (ht b (h.heap.lt (by simp [ho']) hb))⟩⟩
  have hh : HRel w' A2 (fun i => if i ∈ u.map (·.1) then β' i else β i) (updF H u) := by
    refine ⟨fun id cs hi => ?_, fun id T sz es hi => ?_, fun i j b hi hj hb1 hb2 => ?_, fun i b hi hb => ?_, hA2b, fun id ds hi => ?_⟩
    · by_cases hm : id ∈ u.map (·.1)
      · rw [hnew id hm] at hi
        obtain ⟨_, _, _, e⟩ := arrsOnly_get hu id _ hi
        cases e
      · rw [hold id hm] at hi
        obtain ⟨b, c, T, hb, hc, hr1⟩ := h.heap.box id cs hi
        refine ⟨b, c, T, by simp only [hm, if_false]; exact hb, by rw [ht b (Array.getElem?_eq_some_iff.1 hc).1]; exact hc, RepVs.stable hA2 hs _ _ (fun i hi' o1 ho1 => ?_) hr1⟩
        rcases idok i o1 ho1 with h1 | h1
        · exact h1
        · exact absurd hi' (h1.2.2 id _ hi)
    · by_cases hm : id ∈ u.map (·.1)
      · rw [hnew id hm] at hi
        obtain ⟨h1, h2⟩ := hr.arr id T sz es hi
        refine ⟨h1, ?_⟩
        simp only [hm, if_true]
        exact h2.imp (fun h => h) fun ⟨b, c, hb, hc, h3, h4⟩ => ⟨b, c, hb, hc, h3, hrep id T sz es b hi h4⟩
      · rw [hold id hm] at hi
        obtain ⟨h1, h2⟩ := h.heap.arr id T sz es hi
        refine ⟨h1, ?_⟩
        simp only [hm, if_false]
        exact h2.imp (fun h => h) fun ⟨b, c, hb, ⟨T1, hc⟩, h3, h4⟩ => ⟨b, c, hb, ⟨T1, by rw [ht b (Array.getElem?_eq_some_iff.1 hc).1]; exact hc⟩, h3, RepEs.stable hA2 hs b sz (ht b (Array.getElem?_eq_some_iff.1 hc).1) 0 es h4⟩
    · by_cases h1 : i ∈ u.map (·.1) <;> by_cases h2 : j ∈ u.map (·.1)
      · rw [hnew i h1] at hi; rw [hnew j h2] at hj
        simp only [h1, h2, if_true] at hb1 hb2
        exact hr.inj i j b hi hj hb1 hb2
      · rw [hnew i h1] at hi; rw [hold j h2] at hj
        simp only [h1, h2, if_true, if_false] at hb1 hb2
        have := hown i b hi hb1
        have := h.heap.lt hj hb2
        omega
      · rw [hold i h1] at hi; rw [hnew j h2] at hj
        simp only [h1, h2, if_true, if_false] at hb1 hb2
        have := hown j b hj hb2
        have := h.heap.lt hi hb1
        omega
      · rw [hold i h1] at hi; rw [hold j h2] at hj
        simp only [h1, h2, if_false] at hb1 hb2
        exact h.heap.inj i j b hi hj hb1 hb2
    · by_cases hm : i ∈ u.map (·.1)
      · rw [hnew i hm] at hi
        simp only [hm, if_true] at hb
        exact hA2s i b hi hb
      · rw [hold i hm] at hi
        simp only [hm, if_false] at hb
        intro hA
        rcases hA2' b hA with h1 | h1
        · exact h.heap.sepA i b hi hb h1
        · have := h.heap.lt hi hb; omega
    · by_cases hm : id ∈ u.map (·.1)
      · rw [hnew id hm] at hi
        obtain ⟨_, _, _, e⟩ := arrsOnly_get hu id _ hi
        cases e
      · rw [hold id hm] at hi
        obtain ⟨b, c, T, vs, us, hb, hc, he, hr1⟩ := h.heap.pre id ds hi
        exact ⟨b, c, T, vs, us, by simp only [hm, if_false]; exact hb, by rw [ht b (Array.getElem?_eq_some_iff.1 hc).1]; exact hc, he, hr1.stableD hA2 hs⟩
  refine ⟨h.update hA2 hs idok hh, ⟨hsz, hos, htp, hout, fun b hb _ => ht b hb, hA2, fun b hb => (hA2' b hb).imp (fun h => h) .inl, fun i b hi hb => ?_, fun i o o' ho ho' => ?_⟩⟩
  · by_cases hm : i ∈ u.map (·.1)
    · rw [hnew i hm] at hi
      simp only [hm, if_true] at hb
      exact .inl (hown i b hi hb)
    · rw [hold i hm] at hi
      simp only [hm, if_false] at hb
      exact .inr ⟨i, hi, hb⟩
  · rcases idok i o' ho' with ⟨o2, h1, h2⟩ | h1
    · rw [ho] at h1; cases h1; exact h2
    · rw [h1.1] at ho; cases ho
end Go.AX
set_option linter.unusedVariables false
set_option linter.unusedSimpArgs false
namespace Go.AX

theorem RepEs.flat {w A A' b sz} {es : List (List D)} {o : Nat} (hf : ∀ e ∈ es, ∀ d ∈ e, D.flat d = true) (h : RepEs w A b sz o es) : RepEs w A' b sz o es := by
  obtain ⟨h1, vs, h2, h3, h4⟩ := h.values
  refine RepEs.of_values h1 (RepDs.flat (fun d hd => ?_) h3) h4
  obtain ⟨e, he, hd⟩ := List.mem_flatten.1 hd
  exact hf e he d hd

/-- A callee without objects; nothing is lent to it: what it returns may be a part of what it got. -/
theorem sem_callPure {P n d fo args ts t p e g E H f caps r u args'} (hd : ∀ i, d = some i → i < n) (hf : evalA E fo = .fn f caps)
    (hc : ACalls P f args' [] r u) (hv : AV.views H (args.toList.map (evalA E) ++ caps) = args') (hp : AV.viewPs H (args.toList.map (evalA E) ++ caps)) (hi : AV.idsL (args.toList.map (evalA E) ++ caps) = [])
    (hu : arrsOnly u) (hr : ∀ i ∈ r.ids, i ∈ u.map (·.1)) (hfr : ∀ i, i ∈ u.map (·.1) → Fresh i E H) :
    OSem P n ⟨d, .call { callee := .value fo, args := args, argTypes := ts }, t, p, e, g⟩ E H r u :=
  OSem.call hd hf hc fun A β a w hcfg => by
    have e0 : (fun b => A b ∨ ∃ i ∈ ([] : List Nat), H i ≠ none ∧ β i = some b) = A := by funext b; simp
    have hg : hget ([] : HL) = fun _ => none := rfl
    refine ⟨A, fun _ => none, fun vs h => ?_, ?_, fun w' A' β' v k1 k2 k3 => ?_⟩
    · have := hcfg.views_rep [] _ vs h hp (by rw [hi]; simp)
      rw [e0, hv] at this
      exact this
    · exact ⟨fun id cs h => by simp [hget] at h, fun id T sz es h => by simp [hget] at h, fun i j b h => by simp [hget] at h, fun i b h => by simp [hget] at h, hcfg.heap.bound, fun id ds h => by simp [hget] at h⟩
    · have hsame : ∀ b : Nat, b < w.heap.size → w'.heap[b]? = w.heap[b]? := fun b hb => k3.same b hb fun i hi => by simp [hget] at hi
      have hown : ∀ i b, hget u i ≠ none → β' i = some b → w.heap.size ≤ b := fun i b hi hb => by
        rcases k3.own i b hi hb with h1 | ⟨j, hj, _⟩
        · exact h1
        · simp [hget] at hj
      obtain ⟨c1, c2⟩ := hcfg.join (A2 := A') k3.mono (fun b hb => by
        rcases k3.new b hb with h1 | h1 | ⟨i, h1, _⟩
        · exact .inl h1
        · exact .inr h1
        · simp [hget] at h1) k2.bound k2.sepA k2 hu (fun _ _ _ _ _ _ h => h) hsame k3.size k3.os k3.tape k3.output hown hfr
      refine ⟨A', _, c1, ?_, c2⟩
      refine RepV.stable (fun _ h => h) (fun _ _ => rfl) _ _ (fun i hi o' ho' => ?_) k1
      have hm := hr i hi
      rw [updF_get, if_pos hm] at ho'
      refine ⟨o', ho', ?_⟩
      cases o' with
      | pre _ => exact ⟨by simp only [hm, if_true], fun _ _ => rfl⟩
      | box _ => exact ⟨by simp only [hm, if_true], fun _ _ => rfl⟩
      | arr _ _ _ => exact ⟨rfl, rfl, Nat.le_refl _, fun _ => ⟨by simp only [hm, if_true], fun _ _ => rfl⟩⟩

/-- A callee without objects, arrays lent to it: what it returns holds no slice but new ones. -/
theorem sem_callLent {P n d fo args ts t p e g E H f caps r u args'} (hd : ∀ i, d = some i → i < n) (hf : evalA E fo = .fn f caps)
    (hc : ACalls P f args' [] r u) (hv : AV.views H (args.toList.map (evalA E) ++ caps) = args') (hp : AV.viewPs H (args.toList.map (evalA E) ++ caps))
    (hfl : r.flat = true) (hu : arrsOnly u) (hfu : flatObjs u) (hr : ∀ i ∈ r.ids, i ∈ u.map (·.1)) (hfr : ∀ i, i ∈ u.map (·.1) → Fresh i E H) :
    OSem P n ⟨d, .call { callee := .value fo, args := args, argTypes := ts }, t, p, e, g⟩ E H r u :=
  OSem.call hd hf hc fun A β a w hcfg => by
    refine ⟨fun b => A b ∨ ∃ i ∈ AV.idsL (args.toList.map (evalA E) ++ caps), H i ≠ none ∧ β i = some b, fun _ => none, fun vs h => ?_, ?_, fun w' A' β' v k1 k2 k3 => ?_⟩
    · have := hcfg.views_rep _ _ vs h hp (fun i h => h)
      rw [hv] at this
      exact this
    · refine ⟨fun id cs h => by simp [hget] at h, fun id T sz es h => by simp [hget] at h, fun i j b h => by simp [hget] at h, fun i b h => by simp [hget] at h, fun b hb => ?_, fun id ds h => by simp [hget] at h⟩
      rcases hb with hb | ⟨i, _, h1, h2⟩
      · exact hcfg.heap.bound b hb
      · exact hcfg.heap.lt h1 h2
    · have hsame : ∀ b : Nat, b < w.heap.size → w'.heap[b]? = w.heap[b]? := fun b hb => k3.same b hb fun i hi => by simp [hget] at hi
      have hown : ∀ i b, hget u i ≠ none → β' i = some b → w.heap.size ≤ b := fun i b hi hb => by
        rcases k3.own i b hi hb with h1 | ⟨j, hj, _⟩
        · exact h1
        · simp [hget] at hj
      obtain ⟨c1, c2⟩ := hcfg.join (A2 := A) (A' := A') (β' := β') (fun _ h => h) (fun b hb => .inl hb) (fun b hb => Nat.lt_of_lt_of_le (hcfg.heap.bound b hb) k3.size) (fun i b hi hb hA => by
        have := hown i b hi hb
        have := hcfg.heap.bound b hA
        omega) k2 hu (fun i T sz es b hi h => RepEs.flat (flatObjs_get hfu i T sz es hi) h) hsame k3.size k3.os k3.tape k3.output hown hfr
      refine ⟨A, _, c1, ?_, c2⟩
      refine RepV.stable (fun _ h => h) (fun _ _ => rfl) _ _ (fun i hi o' ho' => ?_) (RepV.flat (A' := A) _ _ hfl k1)
      have hm := hr i hi
      rw [updF_get, if_pos hm] at ho'
      refine ⟨o', ho', ?_⟩
      cases o' with
      | pre _ => exact ⟨by simp only [hm, if_true], fun _ _ => rfl⟩
      | box _ => exact ⟨by simp only [hm, if_true], fun _ _ => rfl⟩
      | arr _ _ _ => exact ⟨rfl, rfl, Nat.le_refl _, fun _ => ⟨by simp only [hm, if_true], fun _ _ => rfl⟩⟩

mutual
/-- What is passed: the objects of T as they are, other arrays as data (they are frozen then). -/
def AV.viewX (T : List Nat) (H : HF) : AV → AV
  | .arr id off len => if id ∈ T then .arr id off len else .d (avD H (.arr id off len))
  | .nils => .d (.sl [])
  | .agg cs => .agg (AV.viewXs T H cs)
  | .tup cs => .tup (AV.viewXs T H cs)
  | .fn f caps => .fn f (AV.viewXs T H caps)
  | x => x
def AV.viewXs (T : List Nat) (H : HF) : List AV → List AV
  | [] => []
  | x :: r => x.viewX T H :: AV.viewXs T H r
end
mutual
def AV.viewXP (T : List Nat) (H : HF) : AV → Prop
  | .arr id off len => id ∈ T ∨ avDp H (.arr id off len)
  | .agg cs => AV.viewXPs T H cs
  | .tup cs => AV.viewXPs T H cs
  | .fn _ caps => AV.viewXPs T H caps
  | .box id _ => id ∈ T
  | .elt id _ _ _ => id ∈ T
  | _ => True
def AV.viewXPs (T : List Nat) (H : HF) : List AV → Prop
  | [] => True
  | x :: r => x.viewXP T H ∧ AV.viewXPs T H r
end

mutual
theorem CfgF.viewX_rep {n A β E H a w} (h : CfgF n A β E H a w) (T ids : List Nat) (Hc : HF) (hT : ∀ i ∈ T, Hc i = H i) : ∀ (x : AV) (v : Value), RepV w A β H x v → x.viewXP T H → (∀ i ∈ x.ids, i ∉ T → i ∈ ids) →
    RepV w (fun b => A b ∨ ∃ i ∈ ids, H i ≠ none ∧ β i = some b) β Hc (x.viewX T H) v
  | .any, v, _, _, _ => by simp only [AV.viewX, RepV]
  | .d x, v, hx, _, _ => by
    simp only [AV.viewX, RepV] at hx ⊢
    exact RepD.stable (fun _ h => .inl h) (fun _ _ => rfl) _ _ hx
  | .nils, v, hx, _, _ => by
    simp only [AV.viewX, RepV, RepD] at hx ⊢
    obtain ⟨a, rfl⟩ := hx
    exact ⟨a, 0, by simp, by simp, trivial, by simp⟩
  | .nilp, v, hx, _, _ => by simpa only [AV.viewX, RepV] using hx
  | .nl _, v, hx, _, _ => by simpa only [AV.viewX, RepV] using hx
  | .ref cs, v, hx, _, _ => by
    simp only [AV.viewX, RepV] at hx ⊢
    obtain ⟨b, o, e, hA, hr⟩ := hx
    exact ⟨b, o, e, .inl hA, RepCs.stable (fun _ h => .inl h) (fun _ _ => rfl) b rfl o cs hr⟩
  | .box id o, v, hx, hp, _ => by
    simp only [AV.viewXP] at hp
    simp only [AV.viewX, RepV, hT id hp] at hx ⊢
    exact hx
  | .elt id i o m, v, hx, hp, _ => by
    simp only [AV.viewXP] at hp
    simp only [AV.viewX, RepV, hT id hp] at hx ⊢
    exact hx
  | .arr id off len, v, hx, hp, hi => by
    simp only [AV.viewX]
    by_cases hm : id ∈ T
    · rw [if_pos hm]
      simp only [RepV, hT id hm] at hx ⊢
      exact hx
    · rw [if_neg hm]
      simp only [RepV]
      simp only [AV.viewXP, hm, false_or] at hp
      exact h.avD_rep ids hx hp fun i hi' => hi i hi' (by simp only [AV.ids, List.mem_singleton] at hi'; rw [hi']; exact hm)
  | .fn f caps, v, hx, hp, hi => by
    simp only [AV.viewX, RepV] at hx ⊢
    obtain ⟨cs, e, hc⟩ := hx
    exact ⟨cs, e, CfgF.viewXs_rep h T ids Hc hT caps cs.toList hc (by simpa only [AV.viewXP] using hp) (by simpa only [AV.ids] using hi)⟩
  | .agg cs, v, hx, hp, hi => by
    simp only [AV.viewX, RepV] at hx ⊢
    obtain ⟨vs, e, hc⟩ := hx
    exact ⟨vs, e, CfgF.viewXs_rep h T ids Hc hT cs vs.toList hc (by simpa only [AV.viewXP] using hp) (by simpa only [AV.ids] using hi)⟩
  | .tup cs, v, hx, hp, hi => by
    simp only [AV.viewX, RepV] at hx ⊢
    obtain ⟨vs, e, hc⟩ := hx
    exact ⟨vs, e, CfgF.viewXs_rep h T ids Hc hT cs vs.toList hc (by simpa only [AV.viewXP] using hp) (by simpa only [AV.ids] using hi)⟩
theorem CfgF.viewXs_rep {n A β E H a w} (h : CfgF n A β E H a w) (T ids : List Nat) (Hc : HF) (hT : ∀ i ∈ T, Hc i = H i) : ∀ (xs : List AV) (vs : List Value), RepVs w A β H xs vs → AV.viewXPs T H xs → (∀ i ∈ AV.idsL xs, i ∉ T → i ∈ ids) →
    RepVs w (fun b => A b ∨ ∃ i ∈ ids, H i ≠ none ∧ β i = some b) β Hc (AV.viewXs T H xs) vs
  | [], vs, hx, _, _ => by simpa only [AV.viewXs, RepVs] using hx
  | x :: r, vs, hx, hp, hi => by
    simp only [AV.viewXs, RepVs] at hx ⊢
    obtain ⟨v, t, e, h1, h2⟩ := hx
    simp only [AV.viewXPs] at hp
    exact ⟨v, t, e, CfgF.viewX_rep h T ids Hc hT x v h1 hp.1 (fun i hm => hi i (by simp [AV.idsL, hm])), CfgF.viewXs_rep h T ids Hc hT r t h2 hp.2 (fun i hm => hi i (by simp [AV.idsL, hm]))⟩
end

/-- The callee's objects go back into the caller's heap. -/
theorem CfgF.rejoin {n A β E H a w} (h : CfgF n A β E H a w) {T : List Nat} {hc h' : HL} (hT : ∀ i, hget hc i = if i ∈ T then H i else none) (hTl : ∀ i ∈ T, H i ≠ none) {w' A' β'}
    (hr : HRel w' A' β' (hget h')) (ht : Trans w A β (hget hc) w' A' β' (hget h')) (hcl : ∀ i o, hget h' i = some o → ∀ j ∈ o.ids, j ∈ h'.map (·.1))
    (hfr : ∀ i, i ∈ h'.map (·.1) → i ∉ T → Fresh i E H) :
    CfgF n A' (fun i => if i ∈ T ∨ i ∈ h'.map (·.1) then β' i else β i) E (fun i => if i ∈ T ∨ i ∈ h'.map (·.1) then hget h' i else H i) a w' ∧
    Trans w A β H w' A' (fun i => if i ∈ T ∨ i ∈ h'.map (·.1) then β' i else β i) (fun i => if i ∈ T ∨ i ∈ h'.map (·.1) then hget h' i else H i) := by
  have hcT : ∀ i, hget hc i ≠ none → i ∈ T ∧ H i ≠ none := fun i hi => by
    rw [hT] at hi
    by_cases hm : i ∈ T
    · rw [if_pos hm] at hi; exact ⟨hm, hi⟩
    · rw [if_neg hm] at hi; exact absurd rfl hi
  have hs : ∀ b, A b → w'.heap[b]? = w.heap[b]? := fun b hb => ht.same b (h.heap.bound b hb) fun i hi hb' => h.heap.sepA i b (hcT i hi).2 hb' hb
  have hold : ∀ i b, i ∉ T → H i ≠ none → β i = some b → w'.heap[b]? = w.heap[b]? := fun i b hi h1 hb => ht.same b (h.heap.lt h1 hb) fun j hj hb' => by
    have := h.heap.inj i j b h1 (hcT j hj).2 hb hb'
    exact hi (this ▸ (hcT j hj).1)
  have hown : ∀ i b, hget h' i ≠ none → β' i = some b → w.heap.size ≤ b ∨ ∃ j, j ∈ T ∧ H j ≠ none ∧ β j = some b := fun i b hi hb => by
    rcases ht.own i b hi hb with h1 | ⟨j, hj, hb'⟩
    · exact .inl h1
    · exact .inr ⟨j, (hcT j hj).1, (hcT j hj).2, hb'⟩
  have idok : ∀ i o', (if i ∈ T ∨ i ∈ h'.map (·.1) then hget h' i else H i) = some o' → (∃ o, H i = some o ∧ Keep w w' β (fun i => if i ∈ T ∨ i ∈ h'.map (·.1) then β' i else β i) i o o') ∨ Fresh i E H := fun i o' ho' => by
    by_cases hm : i ∈ T ∨ i ∈ h'.map (·.1)
    · rw [if_pos hm] at ho'
      by_cases hiT : i ∈ T
      · cases ho : H i with
        | none => exact absurd ho (hTl i hiT)
        | some o =>
          have := ht.keep i o o' (by rw [hT, if_pos hiT]; exact ho) ho'
          refine .inl ⟨o, rfl, ?_⟩
          cases o <;> cases o' <;> simp only [Keep, hm, if_true] at this ⊢ <;> exact this
      · exact .inr (hfr i (hget_mem ho') hiT)
    · rw [if_neg hm] at ho'
      refine .inl ⟨o', ho', ?_⟩
      cases o' with
      | pre _ => exact ⟨by simp only [hm, if_false], fun b hb => blkSize_of_heap (hold i b (fun h => hm (.inl h)) (by simp [ho']) hb)⟩
      | box _ => exact ⟨by simp only [hm, if_false], fun b hb => blkSize_of_heap (hold i b (fun h => hm (.inl h)) (by simp [ho']) hb)⟩
      | arr _ _ _ => exact ⟨rfl, rfl, Nat.le_refl _, fun _ => ⟨by simp only [hm, if_false], fun b hb => blkSize_of_heap (hold i b (fun h => hm (.inl h)) (by simp [ho']) hb)⟩⟩
  have cls : ∀ i, (if i ∈ T ∨ i ∈ h'.map (·.1) then hget h' i else H i) ≠ none → (hget h' i ≠ none ∧ (i ∈ T ∨ i ∈ h'.map (·.1))) ∨ (H i ≠ none ∧ i ∉ T ∧ i ∉ h'.map (·.1)) := fun i hi => by
    by_cases hm : i ∈ T ∨ i ∈ h'.map (·.1)
    · rw [if_pos hm] at hi; exact .inl ⟨hi, hm⟩
    · rw [if_neg hm] at hi; exact .inr ⟨hi, fun h => hm (.inl h), fun h => hm (.inr h)⟩
  have hh : HRel w' A' (fun i => if i ∈ T ∨ i ∈ h'.map (·.1) then β' i else β i) (fun i => if i ∈ T ∨ i ∈ h'.map (·.1) then hget h' i else H i) := by
    refine ⟨fun id cs hi => ?_, fun id S sz es hi => ?_, fun i j b hi hj hb1 hb2 => ?_, fun i b hi hb => ?_, hr.bound, fun id ds hi => ?_⟩
    · by_cases hm : id ∈ T ∨ id ∈ h'.map (·.1)
      · simp only [hm, if_true] at hi
        obtain ⟨b, c, S, hb, hcc, hrr⟩ := hr.box id cs hi
        refine ⟨b, c, S, by simp only [hm, if_true]; exact hb, hcc, RepVs.stable (fun _ h => h) (fun _ _ => rfl) _ _ (fun j hj o1 ho1 => ?_) hrr⟩
        have hjm : j ∈ h'.map (·.1) := hcl id _ hi j hj
        simp only [hjm, or_true, if_true] at ho1
        refine ⟨o1, ho1, ?_⟩
        cases o1 with
        | pre _ => exact ⟨by simp only [hjm, or_true, if_true], fun _ _ => rfl⟩
        | box _ => exact ⟨by simp only [hjm, or_true, if_true], fun _ _ => rfl⟩
        | arr _ _ _ => exact ⟨rfl, rfl, Nat.le_refl _, fun _ => ⟨by simp only [hjm, or_true, if_true], fun _ _ => rfl⟩⟩
      · simp only [hm, if_false] at hi
        obtain ⟨b, c, S, hb, hcc, hrr⟩ := h.heap.box id cs hi
        refine ⟨b, c, S, by simp only [hm, if_false]; exact hb, by rw [hold id b (fun h => hm (.inl h)) (by simp [hi]) hb]; exact hcc, RepVs.stable ht.mono hs _ _ (fun j hj o1 ho1 => ?_) hrr⟩
        rcases idok j o1 ho1 with h1 | h1
        · exact h1
        · exact absurd hj (h1.2.2 id _ hi)
    · by_cases hm : id ∈ T ∨ id ∈ h'.map (·.1)
      · simp only [hm, if_true] at hi ⊢
        exact hr.arr id S sz es hi
      · simp only [hm, if_false] at hi ⊢
        obtain ⟨h1, h2⟩ := h.heap.arr id S sz es hi
        refine ⟨h1, h2.imp (fun h => h) fun ⟨b, c, hb, hcc, h3, h4⟩ => ?_⟩
        have hbb := hold id b (fun h => hm (.inl h)) (by simp [hi]) hb
        exact ⟨b, c, hb, by rw [hbb]; exact hcc, h3, RepEs.stable ht.mono hs b sz hbb 0 es h4⟩
    · rcases cls i hi with ⟨h1, m1⟩ | ⟨h1, m1, m1'⟩ <;> rcases cls j hj with ⟨h2, m2⟩ | ⟨h2, m2, m2'⟩
      · simp only [m1, m2, if_true] at hb1 hb2
        exact hr.inj i j b h1 h2 hb1 hb2
      · simp only [m1, m2, m2', or_self, if_true, if_false] at hb1 hb2
        rcases hown i b h1 hb1 with h3 | ⟨k, hk, h3, h4⟩
        · have := h.heap.lt h2 hb2; omega
        · have := h.heap.inj k j b h3 h2 h4 hb2
          exact absurd (this ▸ hk) m2
      · simp only [m1, m2, m1', or_self, if_true, if_false] at hb1 hb2
        rcases hown j b h2 hb2 with h3 | ⟨k, hk, h3, h4⟩
        · have := h.heap.lt h1 hb1; omega
        · have := h.heap.inj k i b h3 h1 h4 hb1
          exact absurd (this ▸ hk) m1
      · simp only [m1, m1', m2, m2', or_self, if_false] at hb1 hb2
        exact h.heap.inj i j b h1 h2 hb1 hb2
    · rcases cls i hi with ⟨h1, m1⟩ | ⟨h1, m1, m1'⟩
      · simp only [m1, if_true] at hb
        exact hr.sepA i b h1 hb
      · simp only [m1, m1', or_self, if_false] at hb
        intro hA
        rcases ht.new b hA with h2 | h2 | ⟨j, h2, h3⟩
        · exact h.heap.sepA i b h1 hb h2
        · have := h.heap.lt h1 hb; omega
        · have := h.heap.inj j i b (hcT j h2).2 h1 h3 hb
          exact m1 (this ▸ (hcT j h2).1)
    · by_cases hm : id ∈ T ∨ id ∈ h'.map (·.1)
      · simp only [hm, if_true] at hi ⊢
        obtain ⟨b, c, S, vs, us, hb, hcc, he, hrr⟩ := hr.pre id ds hi
        exact ⟨b, c, S, vs, us, hb, hcc, he, hrr.stableD (fun _ h => h) (fun _ _ => rfl)⟩
      · simp only [hm, if_false] at hi ⊢
        obtain ⟨b, c, S, vs, us, hb, hcc, he, hrr⟩ := h.heap.pre id ds hi
        exact ⟨b, c, S, vs, us, hb, by rw [hold id b (fun h => hm (.inl h)) (by simp [hi]) hb]; exact hcc, he, hrr.stableD ht.mono hs⟩
  refine ⟨h.update ht.mono hs idok hh, ⟨ht.size, ht.os, ht.tape, ht.output, fun b hb hn => ht.same b hb fun i hi => hn i (hcT i hi).2, ht.mono, fun b hb => ?_, fun i b hi hb => ?_, fun i o o' ho ho' => ?_⟩⟩
  · rcases ht.new b hb with h2 | h2 | ⟨j, h2, h3⟩
    · exact .inl h2
    · exact .inr (.inl h2)
    · exact .inr (.inr ⟨j, (hcT j h2).2, h3⟩)
  · rcases cls i hi with ⟨h1, m1⟩ | ⟨h1, m1, m1'⟩
    · simp only [m1, if_true] at hb
      rcases hown i b h1 hb with h3 | ⟨k, hk, h3, h4⟩
      · exact .inl h3
      · exact .inr ⟨k, h3, h4⟩
    · simp only [m1, m1', or_self, if_false] at hb
      exact .inr ⟨i, h1, hb⟩
  · rcases idok i o' ho' with ⟨o2, h1, h2⟩ | h1
    · rw [ho] at h1; cases h1; exact h2
    · rw [h1.1] at ho; cases ho

/-- The callee's part of the heap, each object as the caller has it. -/
def subOf (H : HF) : HL → Prop
  | [] => True
  | (i, some o) :: r => H i = some o ∧ subOf H r
  | (_, none) :: _ => False
theorem subOf_get {H : HF} : ∀ {h : HL}, subOf H h → (∀ i, hget h i = if i ∈ h.map (·.1) then H i else none) ∧ ∀ i ∈ h.map (·.1), H i ≠ none
  | [], _ => by simp [hget]
  | (j, some o) :: r, h => by
    obtain ⟨h1, h2⟩ := h
    obtain ⟨h3, h4⟩ := subOf_get h2
    refine ⟨fun i => ?_, fun i hi => ?_⟩
    · simp only [hget, List.map_cons, List.mem_cons]
      by_cases e : i = j
      · subst e; simp [h1]
      · rw [if_neg e, h3 i]
        by_cases hm : i ∈ r.map (·.1)
        · rw [if_pos hm, if_pos (.inr hm)]
        · rw [if_neg hm, if_neg (by rintro (h | h); exact e h; exact hm h)]
    · simp only [List.map_cons, List.mem_cons] at hi
      rcases hi with rfl | hi
      · rw [h1]; simp
      · exact h4 i hi
  | (j, none) :: r, h => by simp only [subOf] at h

/-- No object of the list names another than those of the list. -/
def closedIn (names : List Nat) : HL → Prop
  | [] => True
  | (_, some o) :: r => (∀ j ∈ o.ids, j ∈ names) ∧ closedIn names r
  | (_, none) :: r => closedIn names r
theorem closedIn_get {names : List Nat} : ∀ {h : HL}, closedIn names h → ∀ i o, hget h i = some o → ∀ j ∈ o.ids, j ∈ names
  | [], _, i, o, h => by simp [hget] at h
  | (k, some o1) :: r, hc, i, o, h => by
    simp only [hget] at h
    split at h
    · cases h; exact hc.1
    · exact closedIn_get hc.2 i o h
  | (k, none) :: r, hc, i, o, h => by
    simp only [hget] at h
    split at h
    · cases h
    · exact closedIn_get (h := r) hc i o h

theorem hget_nones (i : Nat) : ∀ l : List Nat, hget (l.map fun i => (i, none)) i = none
  | [] => rfl
  | x :: r => by
    simp only [List.map_cons, hget]
    split
    · rfl
    · exact hget_nones i r

/-- What is passed: what is seen, or nil as nil. -/
def nlR : List AV → List AV → List AV → Prop
  | [], [], [] => True
  | x :: r, y :: s, z :: u => (z = y ∨ (x = .nils ∧ z = .nils)) ∧ nlR r s u
  | _, _, _ => False
theorem nlR_refl (T : List Nat) (H : HF) : ∀ xs : List AV, nlR xs (AV.viewXs T H xs) (AV.viewXs T H xs)
  | [] => trivial
  | x :: r => ⟨.inl rfl, nlR_refl T H r⟩
theorem nlR_rep {w A β H w' A' β' H'} : ∀ {xs ys zs : List AV} {vs : List Value}, RepVs w A β H xs vs → RepVs w' A' β' H' ys vs → nlR xs ys zs → RepVs w' A' β' H' zs vs
  | [], [], [], vs, _, h, _ => h
  | x :: r, y :: s, z :: u, vs, h1, h2, h3 => by
    simp only [RepVs] at h1 h2 ⊢
    obtain ⟨v, t, rfl, h4, h5⟩ := h1
    obtain ⟨v', t', e, h6, h7⟩ := h2
    cases e
    refine ⟨v, t, rfl, ?_, nlR_rep h5 h7 h3.2⟩
    rcases h3.1 with e | ⟨e1, e2⟩
    · rw [e]; exact h6
    · rw [e1] at h4
      rw [e2]
      simpa only [RepV] using h4
  | [], [], _ :: _, _, _, _, h => h.elim
  | [], _ :: _, [], _, _, _, h => h.elim
  | [], _ :: _, _ :: _, _, _, _, h => h.elim
  | _ :: _, [], [], _, _, _, h => h.elim
  | _ :: _, [], _ :: _, _, _, _, h => h.elim
  | _ :: _, _ :: _, [], _, _, _, h => h.elim
theorem sem_callSub {P n d fo args ts t p e g E H f caps hc r h' args'} {fz : List Nat} (hd : ∀ i, d = some i → i < n) (hf : evalA E fo = .fn f caps)
    (hcall : ACalls P f args' hc r h') (hsub : subOf H hc) (hv : nlR (args.toList.map (evalA E) ++ caps) (AV.viewXs (hc.map (·.1)) H (args.toList.map (evalA E) ++ caps)) args') (hp : AV.viewXPs (hc.map (·.1)) H (args.toList.map (evalA E) ++ caps))
    (hfz : ∀ i ∈ AV.idsL (args.toList.map (evalA E) ++ caps), i ∉ hc.map (·.1) → i ∈ fz) (hfz' : ∀ i ∈ fz, i ∉ hc.map (·.1) ∧ i ∉ h'.map (·.1))
    (hcl0 : closedIn (hc.map (·.1)) hc) (hcl : closedIn (h'.map (·.1)) h') (hr : ∀ i ∈ r.ids, i ∈ h'.map (·.1)) (hfr : ∀ i, i ∈ h'.map (·.1) → i ∉ hc.map (·.1) → Fresh i E H) :
    OSem P n ⟨d, .call { callee := .value fo, args := args, argTypes := ts }, t, p, e, g⟩ E H r (h' ++ (hc.map fun x => (x.1, none)) ++ fz.map fun i => (i, none)) :=
  OSem.call hd hf hcall fun A β a w hcfg => by
    obtain ⟨hT, hTl⟩ := subOf_get hsub
    obtain ⟨hz1, hz2⟩ := hcfg.freezes fz
    have hT' : ∀ i, hget hc i = if i ∈ hc.map (·.1) then dead H fz i else none := fun i => by
      rw [hT i]
      by_cases hm : i ∈ hc.map (·.1)
      · rw [if_pos hm, if_pos hm]
        have : i ∉ fz := fun h => (hfz' i h).1 hm
        simp only [dead, this, if_false]
      · rw [if_neg hm, if_neg hm]
    have hTl' : ∀ i ∈ hc.map (·.1), dead H fz i ≠ none := fun i hi => by
      have : i ∉ fz := fun h => (hfz' i h).1 hi
      simp only [dead, this, if_false]
      exact hTl i hi
    have hsubok : ∀ i o', hget hc i = some o' → dead H fz i = some o' := fun i o' ho' => by
      rw [hT' i] at ho'
      split at ho'
      · exact ho'
      · cases ho'
    refine ⟨fun b => A b ∨ ∃ i ∈ fz, H i ≠ none ∧ β i = some b, β, fun vs h => ?_, ?_, fun w' A' β' v k1 k2 k3 => ?_⟩
    · have := hcfg.viewXs_rep (hc.map (·.1)) fz (hget hc) (fun i hi => by rw [hT i, if_pos hi]) _ vs h hp hfz
      exact nlR_rep h this hv
    · refine ⟨fun id cs hi => ?_, fun id S sz es hi => hz1.heap.arr id S sz es (hsubok _ _ hi), fun i j b hi hj => ?_, fun i b hi => ?_, hz1.heap.bound, fun id ds hi => ?_⟩
      · obtain ⟨b, c, S, hb, hcc, hrr⟩ := hz1.heap.box id cs (hsubok _ _ hi)
        exact ⟨b, c, S, hb, hcc, RepVs.stable (fun _ h => h) (fun _ _ => rfl) _ _ (fun j _ o1 ho1 => ⟨o1, hsubok j o1 ho1, Keep.refl w β j o1⟩) hrr⟩
      · refine hz1.heap.inj i j b ?_ ?_
        · cases ho : hget hc i with
          | none => exact absurd ho hi
          | some o => rw [hsubok i o ho]; simp
        · cases ho : hget hc j with
          | none => exact absurd ho hj
          | some o => rw [hsubok j o ho]; simp
      · refine hz1.heap.sepA i b ?_
        cases ho : hget hc i with
        | none => exact absurd ho hi
        | some o => rw [hsubok i o ho]; simp
      · obtain ⟨b, c, S, vs, us, hb, hcc, he, hrr⟩ := hz1.heap.pre id ds (hsubok _ _ hi)
        exact ⟨b, c, S, vs, us, hb, hcc, he, hrr.stableD (fun _ h => h) (fun _ _ => rfl)⟩
    · obtain ⟨c1, c2⟩ := hz1.rejoin hT' hTl' k2 k3 (closedIn_get hcl) (fun i h1 h2 => (hfr i h1 h2).dead fz)
      have heq : updF H (h' ++ (hc.map fun x => (x.1, none)) ++ fz.map fun i => (i, none)) = fun i => if i ∈ hc.map (·.1) ∨ i ∈ h'.map (·.1) then hget h' i else dead H fz i := by
        funext i
        rw [updF_get]
        have hga : ∀ (x y : HL), hget (x ++ y) i = if i ∈ x.map (·.1) then hget x i else hget y i := fun x y => by rw [hget_append, updF_get]
        have hnn : ∀ l : List Nat, hget (l.map fun i => (i, none)) i = none := hget_nones i
        have hnn2 : hget (hc.map fun x => (x.1, (none : Option AObj))) i = none := by
          have := hnn (hc.map (·.1)); simpa [Function.comp_def] using this
        by_cases h1 : i ∈ h'.map (·.1)
        · have hm : i ∈ ((h' ++ (hc.map fun (x : Nat × Option AObj) => (x.1, none)) ++ fz.map fun i => (i, none) : HL)).map (·.1) := by simp only [List.map_append, List.mem_append]; exact .inl (.inl h1)
          rw [if_pos hm, if_pos (.inr h1), hga, hga, if_pos h1, if_pos (by simp only [List.map_append, List.mem_append]; exact .inl h1)]
        · have hh' : hget h' i = none := by
            cases ho : hget h' i with
            | none => rfl
            | some o => exact absurd (hget_mem ho) h1
          by_cases h2 : i ∈ hc.map (·.1)
          · have hm : i ∈ ((h' ++ (hc.map fun (x : Nat × Option AObj) => (x.1, none)) ++ fz.map fun i => (i, none) : HL)).map (·.1) := by
              simp only [List.map_append, List.mem_append]
              refine .inl (.inr ?_)
              simpa [Function.comp_def] using h2
            rw [if_pos hm, if_pos (.inl h2), hh', hga, hga, if_neg h1, hnn2, hnn]
            simp
          · rw [if_neg (show ¬ (i ∈ hc.map (·.1) ∨ i ∈ h'.map (·.1)) by rintro (h | h); exact h2 h; exact h1 h)]
            simp only [dead]
            by_cases h3 : i ∈ fz
            · have hm : i ∈ ((h' ++ (hc.map fun (x : Nat × Option AObj) => (x.1, none)) ++ fz.map fun i => (i, none) : HL)).map (·.1) := by
                simp only [List.map_append, List.mem_append]
                refine .inr ?_
                simpa [Function.comp_def] using h3
              rw [if_pos hm, if_pos h3, hga, hga, if_neg h1, hnn2, hnn]
              simp
            · have hm : i ∉ ((h' ++ (hc.map fun (x : Nat × Option AObj) => (x.1, none)) ++ fz.map fun i => (i, none) : HL)).map (·.1) := by
                simp only [List.map_append, List.mem_append]
                rintro ((h | h) | h)
                · exact h1 h
                · exact h2 (by simpa [Function.comp_def] using h)
                · exact h3 (by simpa [Function.comp_def] using h)
              rw [if_neg hm, if_neg h3]
      rw [heq]
      refine ⟨A', _, c1, ?_, hz2.comp c2 fun i h1 h2 => ?_⟩
      · refine RepV.stable (fun _ h => h) (fun _ _ => rfl) _ _ (fun i hi o' ho' => ?_) k1
        have hm := hr i hi
        simp only [hm, or_true, if_true] at ho'
        refine ⟨o', ho', ?_⟩
        cases o' with
        | pre _ => exact ⟨by simp only [hm, or_true, if_true], fun _ _ => rfl⟩
        | box _ => exact ⟨by simp only [hm, or_true, if_true], fun _ _ => rfl⟩
        | arr _ _ _ => exact ⟨rfl, rfl, Nat.le_refl _, fun _ => ⟨by simp only [hm, or_true, if_true], fun _ _ => rfl⟩⟩
      · have hiz : i ∈ fz := by
          simp only [dead] at h2
          by_cases hz : i ∈ fz
          · exact hz
          · rw [if_neg hz] at h2; exact absurd h2 h1
        have h3 := hfz' i hiz
        rw [if_neg (by rintro (h | h); exact h3.1 h; exact h3.2 h)]
        exact h2
end Go.AX
set_option linter.unusedVariables false
set_option linter.unusedSimpArgs false
namespace Go.AX

/-- The log of a region that draws: for each operation what it touches, what it writes, what it makes. -/
structure Ent where
  all : Bool
  t : List Nat
  m : List Nat
  w : List Nat
  n : List Nat
  deriving Inhabited
abbrev Log := Option (List Ent)
def addLog (lg : Log) (all : Bool) (t m w n : List Nat) : Log := lg.map fun l => ⟨all, t, m, w, n⟩ :: l

def newIds (H : HF) : HL → List Nat
  | [] => []
  | (i, some _) :: r => (match H i with | none => [i] | some _ => []) ++ newIds H r
  | (_, none) :: r => newIds H r

/-- A step that holds wherever the operands and the objects that it looks at are the same. -/
def LSem (P : Program) (n : Nat) (o : Oper) (E : EF) (H : HF) (r : AV) (u : HL) (all : Bool) (T : List Nat) : Prop :=
  ∀ E' H', (∀ x ∈ o.op.operands, evalA E' x = evalA E x) → (all = true → H' = H) → (∀ i ∈ T, H' i = H i) → (∀ i x, (i, some x) ∈ u → H' i = none → Fresh i E' H') → OSem P n o E' H' r u

def gslot (full : List Oper) (j : Nat) : Option Nat := (full[j]?).bind (·.dst)

def St.step (s : St) (d : Option Nat) (r : AV) (u : HL) : St := ⟨putL s.e d r, u ++ s.h⟩

/-- One operation. -/
def VOp (P : Program) (n nb : Nat) (o : Oper) (s : St) (lg : Log) (K : Log → St → Prop) : Prop :=
  match o.op with
  | .call { callee := .value _, .. } =>
    ∃ r u all T, LSem P n o (eget s.e) (hget s.h) r u all T ∧ dstOk n o.dst ∧ freshU nb s u ∧
      K (addLog lg all (T ++ u.map (·.1)) (r.ids ++ updIds u) (u.map (·.1)) (newIds (hget s.h) u)) (s.step o.dst r u)
  | _ =>
    (outOf P nb o (eget s.e) (hget s.h)).1.pre ∧ dstOk n o.dst ∧ freshU nb s (outOf P nb o (eget s.e) (hget s.h)).1.upd ∧
      K (addLog lg false ((outOf P nb o (eget s.e) (hget s.h)).2 ++ (outOf P nb o (eget s.e) (hget s.h)).1.upd.map (·.1)) ((outOf P nb o (eget s.e) (hget s.h)).1.res.ids ++ updIds (outOf P nb o (eget s.e) (hget s.h)).1.upd)
        ((outOf P nb o (eget s.e) (hget s.h)).1.upd.map (·.1)) (newIds (hget s.h) (outOf P nb o (eget s.e) (hget s.h)).1.upd)) (s.step o.dst (outOf P nb o (eget s.e) (hget s.h)).1.res (outOf P nb o (eget s.e) (hget s.h)).1.upd)

/-- A guard that is asked. -/
def VG (x : AV) (want : Bool) (go skip : Prop) : Prop :=
  match x with
  | .d (.bool g) => (g = want → go) ∧ (g ≠ want → skip)
  | .tup [] => skip
  | _ => False

def VOps (P : Program) (n nb : Nat) (full : List Oper) : List Oper → St → Log → (Log → St → Prop) → Prop
  | [], s, lg, K => K lg s
  | o :: r, s, lg, K =>
    match o.guard with
    | none => VOp P n nb o s lg fun lg' s' => VOps P n nb full r s' lg' K
    | some (j, want) => match gslot full j with
      | none => False
      | some t => VG (eget s.e t) want (VOp P n nb o s lg fun lg' s' => VOps P n nb full r s' lg' K)
          (dstOk n o.dst ∧ VOps P n nb full r (s.step o.dst (.tup []) []) (addLog lg false [] [] [] []) K)

structure Base where
  w : World
  A : Nat → Prop
  β : BF
  H : HF
def Base.ok (B : Base) (nb : Nat) : Prop := ∀ i, B.H i ≠ none → i < nb

def Cf (n : Nat) (B : Base) (E : EF) (H : HF) (a : Act) (w : World) : Prop :=
  ∃ A β, CfgF n A β E H a w ∧ Trans B.w B.A B.β B.H w A β H

theorem wp_mono2 {P : Program} {o : Oper} {a : Act} {w : World} {K K' : Act → World → Prop} {Q Q' : Exit → Act → World → Prop} (h : ∀ a w, K a w → K' a w) (hq : ∀ e a w, Q e a w → Q' e a w)
    (hh : o.wp P a w K Q) : o.wp P a w K' Q' := by
  unfold Oper.wp at *
  generalize (execOp a.eval o).run P w = r at *
  cases r with
  | ok n w' =>
    cases n <;> simp only [Oper.upon] at hh ⊢ <;>
      first
        | exact h _ _ hh
        | exact Calls.mono hh (fun e w'' he => by cases e <;> first | exact h _ _ he | exact hq _ _ _ he | (obtain ⟨x, y, hz⟩ := he; exact ⟨x, y, hq _ _ _ hz⟩))
        | exact Rows.mono hh (fun _ _ he => h _ _ he)
  | halt x w' => cases x <;> simp only [Oper.upon] at hh ⊢ <;> first | exact hq _ _ _ hh | exact hh

theorem LSem.of_out {P n nb} {o : Oper} {E H} (hd : dstOk n o.dst) (hpre : (outOf P nb o E H).1.pre) : LSem P n o E H (outOf P nb o E H).1.res (outOf P nb o E H).1.upd false (outOf P nb o E H).2 := by
  intro E' H' he _ hT hf
  have e := outOf_congr he hT
  have := outOf_sound (P := P) (n := n) (nb := nb) (o := o) (E := E') (H := H') (fun i hi => by rw [hi] at hd; exact hd) (by rw [e]; exact hpre) (by rw [e]; exact hf)
  rw [e] at this
  exact this

/-- A step's facts, of whatever kind the operation is. -/
theorem VOp.elim {P n nb} {o : Oper} {s : St} {lg : Log} {K : Log → St → Prop} (h : VOp P n nb o s lg K) :
    ∃ r u all T, LSem P n o (eget s.e) (hget s.h) r u all T ∧ dstOk n o.dst ∧ freshU nb s u ∧
      K (addLog lg all (T ++ u.map (·.1)) (r.ids ++ updIds u) (u.map (·.1)) (newIds (hget s.h) u)) (s.step o.dst r u) := by
  unfold VOp at h
  split at h
  · exact h
  · obtain ⟨h1, h2, h3, h4⟩ := h
    exact ⟨_, _, false, _, LSem.of_out h2 h1, h2, h3, h4⟩

theorem freshU_fresh {nb : Nat} {s : St} : ∀ {u : HL}, freshU nb s u → ∀ i x, (i, some x) ∈ u → hget s.h i = none → nb ≤ i ∧ Fresh i (eget s.e) (hget s.h)
  | [], _, i, x, hm, _ => by simp at hm
  | (j, some y) :: r, h, i, x, hm, hn => by
    rcases List.mem_cons.1 hm with e | hm
    · cases e
      rcases h.1 with h1 | ⟨h1, h2, h3⟩
      · exact absurd hn h1
      · exact ⟨h1, fresh_of h2 h3⟩
    · exact freshU_fresh h.2 i x hm hn
  | (j, none) :: r, h, i, x, hm, hn => by
    rcases List.mem_cons.1 hm with e | hm
    · cases e
    · exact freshU_fresh (by simpa only [freshU] using h) i x hm hn

theorem updF_new {H : HF} {u : HL} {i : Nat} (h1 : H i = none) (h2 : updF H u i ≠ none) : ∃ x, (i, some x) ∈ u := by
  induction u with
  | nil => simp only [updF] at h2; exact absurd h1 h2
  | cons y r ih =>
    obtain ⟨j, o⟩ := y
    simp only [updF] at h2
    by_cases e : i = j
    · subst e
      simp only [if_true] at h2
      cases o with
      | none => exact absurd rfl h2
      | some x => exact ⟨x, by simp⟩
    · simp only [e, if_false] at h2
      obtain ⟨x, hx⟩ := ih h2
      exact ⟨x, List.mem_cons_of_mem _ hx⟩

theorem step_e (s : St) (d : Option Nat) (r : AV) (u : HL) : eget (s.step d r u).e = putE (eget s.e) d r := eget_putL _ _ _
theorem step_h (s : St) (d : Option Nat) (r : AV) (u : HL) : hget (s.step d r u).h = updF (hget s.h) u := hget_append _ _

/-- A step on configurations over a base. -/
theorem OSem.on {P n nb o E H r u} (h : OSem P n o E H r u) (hn : ∀ i, H i = none → updF H u i ≠ none → nb ≤ i) {B : Base} (hB : B.ok nb) {a w} (hc : Cf n B E H a w)
    {K : Act → World → Prop} {Q : Exit → Act → World → Prop} (hK : ∀ a' w', Cf n B (putE E o.dst r) (updF H u) a' w' → K a' w') : o.wp P a w K Q := by
  obtain ⟨A, β, hc, ht⟩ := hc
  refine wp_mono2 (fun a' w' ⟨A', β', h1, h2⟩ => hK a' w' ⟨A', β', h1, ht.comp h2 fun i h3 h4 => ?_⟩) (fun _ _ _ h => h.elim) (h A β a w hc)
  cases h5 : updF H u i with
  | none => rfl
  | some o' => have := hn i h4 (by simp [h5]); have := hB i h3; omega

theorem guard_val {n A β E H a w} (h : CfgF n A β E H a w) {full : List Oper} {j t : Nat} {g : Bool} (hs : gslot full j = some t) (hg : E t = .d (.bool g)) : yielded full.toArray a.tmps j = some g := by
  have h1 := h.env t
  rw [hg] at h1
  simp only [RepV, RepD] at h1
  have h2 : a.tmps[t]? = some (.bool g) := by
    rw [Array.getD_eq_getD_getElem?] at h1
    cases hx : a.tmps[t]? with
    | none => rw [hx] at h1; simp [undef] at h1
    | some v => rw [hx] at h1; simp at h1; rw [h1]
  unfold gslot at hs
  unfold yielded
  rw [List.getElem?_toArray, hs]
  simp [h2]

theorem guard_undef {n A β E H a w} (h : CfgF n A β E H a w) {full : List Oper} {j t : Nat} (hs : gslot full j = some t) (hg : E t = .tup []) : yielded full.toArray a.tmps j = none := by
  have h1 := h.env t
  rw [hg] at h1
  simp only [RepV, RepVs] at h1
  obtain ⟨vs, h1, h0⟩ := h1
  rw [Array.getD_eq_getD_getElem?] at h1
  unfold gslot at hs
  unfold yielded
  rw [List.getElem?_toArray, hs]
  cases hx : a.tmps[t]? with
  | none => simp [hx]
  | some v => rw [hx] at h1; simp at h1; simp [hx, h1]

theorem VOps_run {P n nb} (full : List Oper) {B : Base} (hB : B.ok nb) {K : Log → St → Prop} : ∀ (l : List Oper) (k : Nat) (s : St) (lg : Log) (a : Act) (w : World), full.drop k = l → VOps P n nb full l s lg K → Cf n B (eget s.e) (hget s.h) a w →
    wpOps P full.toArray (fun e a' w' => e = .normal ∧ ∃ lg' s', K lg' s' ∧ Cf n B (eget s'.e) (hget s'.h) a' w') (List.range' k l.length) a w
  | [], k, s, lg, a, w, _, h, hc => by
    simp only [VOps] at h
    simp only [List.length_nil, List.range'_zero, wpOps]
    exact ⟨by trivial, lg, s, h, hc⟩
  | o :: r, k, s, lg, a, w, hd, h, hc => by
    have hk : full[k]? = some o := by
      have := congrArg (·[0]?) hd
      simpa using this
    have hd' : full.drop (k + 1) = r := by
      have := congrArg (List.drop 1) hd
      simpa [List.drop_drop, Nat.add_comm] using this
    simp only [List.length_cons, List.range'_succ, wpOps, List.getElem?_toArray, hk]
    have exec : (VOp P n nb o s lg fun lg' s' => VOps P n nb full r s' lg' K) → o.wp P a w (wpOps P full.toArray (fun e a' w' => e = .normal ∧ ∃ lg' s', K lg' s' ∧ Cf n B (eget s'.e) (hget s'.h) a' w') (List.range' (k + 1) r.length)) (fun e a' w' => e = .normal ∧ ∃ lg' s', K lg' s' ∧ Cf n B (eget s'.e) (hget s'.h) a' w') := by
      intro hv
      obtain ⟨x, u, all, T, h1, h2, h3, h4⟩ := hv.elim
      have h5 : OSem P n o (eget s.e) (hget s.h) x u := h1 _ _ (fun _ _ => rfl) (fun _ => rfl) (fun _ _ => rfl) fun i y hm hn => (freshU_fresh h3 i y hm hn).2
      refine h5.on (nb := nb) (fun i hi hu => ?_) hB hc fun a' w' hc' => ?_
      · obtain ⟨y, hy⟩ := updF_new hi hu
        exact (freshU_fresh h3 i y hy hi).1
      · rw [← step_e, ← step_h] at hc'
        exact VOps_run full hB r (k + 1) _ _ a' w' hd' h4 hc'
    simp only [VOps] at h
    cases hg : o.guard with
    | none =>
      simp only [hg] at h
      have hw : Region.wanted o (yielded full.toArray a.tmps) = true := by simp [Region.wanted, hg]
      simp only [hw, if_true]
      exact .inl (exec h)
    | some jw =>
      obtain ⟨j, want⟩ := jw
      simp only [hg] at h
      cases hs : gslot full j with
      | none => simp only [hs] at h
      | some t =>
        simp only [hs] at h
        unfold VG at h
        split at h
        · rename_i g hgt
          obtain ⟨A, β, hcf, ht⟩ := hc
          have hy := guard_val hcf hs hgt
          have hw : Region.wanted o (yielded full.toArray a.tmps) = (some g == some want) := by simp only [Region.wanted, hg, hy]
          by_cases hgw : g = want
          · subst hgw
            rw [hw]
            simp only [beq_self_eq_true, if_true]
            exact .inl (exec (h.1 rfl))
          · rw [hw]
            have hne : (some g == some want) = false := by simpa using hgw
            rw [hne]
            simp only [Bool.false_eq_true, if_false]
            obtain ⟨h1, h2⟩ := h.2 hgw
            refine VOps_run full hB r (k + 1) _ _ _ w hd' h2 ⟨A, β, ?_, ht⟩
            rw [step_e, step_h]
            exact hcf.put (fun i hi => by rw [hi] at h1; exact h1) (by simp only [RepV]; exact ⟨#[], rfl, by simp [RepVs]⟩)
        · rename_i hgt
          obtain ⟨A, β, hcf, ht⟩ := hc
          have hy := guard_undef hcf hs hgt
          have hw : Region.wanted o (yielded full.toArray a.tmps) = false := by simp only [Region.wanted, hg, hy]; rfl
          rw [hw]
          simp only [Bool.false_eq_true, if_false]
          obtain ⟨h1, h2⟩ := h
          refine VOps_run full hB r (k + 1) _ _ _ w hd' h2 ⟨A, β, ?_, ht⟩
          rw [step_e, step_h]
          exact hcf.put (fun i hi => by rw [hi] at h1; exact h1) (by simp only [RepV]; exact ⟨#[], rfl, by simp [RepVs]⟩)
        · exact h.elim
end Go.AX
set_option linter.unusedVariables false
set_option linter.unusedSimpArgs false
namespace Go.AX

structure Rec where
  skip : Bool
  r : AV
  u : HL
  all : Bool
  t : List Nat
  deriving Inhabited

def entOf (H : HF) (ρ : Rec) : Ent := ⟨ρ.all, ρ.t ++ ρ.u.map (·.1), ρ.r.ids ++ updIds ρ.u, ρ.u.map (·.1), newIds H ρ.u⟩

def RecOk (P : Program) (n nb : Nat) (full : List Oper) (o : Oper) (E : EF) (H : HF) (ρ : Rec) : Prop :=
  dstOk n o.dst ∧
  (∀ i x, (i, some x) ∈ ρ.u → H i = none → nb ≤ i) ∧
  if ρ.skip then ρ.r = .tup [] ∧ ρ.u = [] ∧ ∃ j want t, o.guard = some (j, want) ∧ gslot full j = some t ∧ (E t = .tup [] ∨ ∃ g, E t = .d (.bool g) ∧ g ≠ want)
  else LSem P n o E H ρ.r ρ.u ρ.all ρ.t ∧ (o.guard = none ∨ ∃ j want t, o.guard = some (j, want) ∧ gslot full j = some t ∧ E t = .d (.bool want))

/-- The states of the text's order, with some operations left out. -/
def stp (s : St) (full : List Oper) (ρ : Nat → Rec) (done : Nat → Bool) : Nat → EF × HF
  | 0 => (eget s.e, hget s.h)
  | m + 1 => if done m then (putE (stp s full ρ done m).1 ((full[m]?).bind (·.dst)) (ρ m).r, updF (stp s full ρ done m).2 (ρ m).u) else stp s full ρ done m

theorem VOps_recs {P n nb} {full : List Oper} {K : Log → St → Prop} : ∀ (l : List Oper) (k : Nat) (s s0 : St) (lg : List Ent) (ρ0 : Nat → Rec), full.drop k = l → VOps P n nb full l s (some lg) K →
    eget s.e = (stp s0 full ρ0 (fun _ => true) k).1 → hget s.h = (stp s0 full ρ0 (fun _ => true) k).2 →
    ∃ (ρ : Nat → Rec) (sN : St) (es : List Ent), (∀ m, m < k → ρ m = ρ0 m) ∧ K (some (es.reverse ++ lg)) sN ∧ es.length = l.length ∧
      (∀ i o, l[i]? = some o → RecOk P n nb full o (stp s0 full ρ (fun _ => true) (k + i)).1 (stp s0 full ρ (fun _ => true) (k + i)).2 (ρ (k + i)) ∧ es[i]? = some (entOf (stp s0 full ρ (fun _ => true) (k + i)).2 (ρ (k + i)))) ∧
      eget sN.e = (stp s0 full ρ (fun _ => true) (k + l.length)).1 ∧ hget sN.h = (stp s0 full ρ (fun _ => true) (k + l.length)).2
  | [], k, s, s0, lg, ρ0, hd, h, he, hh => by
    simp only [VOps] at h
    exact ⟨ρ0, s, [], fun _ _ => rfl, by simpa using h, rfl, fun i o hi => by simp at hi, by simpa using he, by simpa using hh⟩
  | o :: l, k, s, s0, lg, ρ0, hd, h, he, hh => by
    have hk : full[k]? = some o := by
      have := congrArg (·[0]?) hd
      simpa using this
    have hd' : full.drop (k + 1) = l := by
      have := congrArg (List.drop 1) hd
      simpa [List.drop_drop, Nat.add_comm] using this
    -- one step with the record ρk
    have key : ∀ (ρk : Rec) (lg' : List Ent), RecOk P n nb full o (eget s.e) (hget s.h) ρk → lg' = entOf (hget s.h) ρk :: lg → VOps P n nb full l (s.step o.dst ρk.r ρk.u) (some lg') K →
        ∃ (ρ : Nat → Rec) (sN : St) (es : List Ent), (∀ m, m < k → ρ m = ρ0 m) ∧ K (some (es.reverse ++ lg)) sN ∧ es.length = (o :: l).length ∧
          (∀ i o', (o :: l)[i]? = some o' → RecOk P n nb full o' (stp s0 full ρ (fun _ => true) (k + i)).1 (stp s0 full ρ (fun _ => true) (k + i)).2 (ρ (k + i)) ∧ es[i]? = some (entOf (stp s0 full ρ (fun _ => true) (k + i)).2 (ρ (k + i)))) ∧
          eget sN.e = (stp s0 full ρ (fun _ => true) (k + (o :: l).length)).1 ∧ hget sN.h = (stp s0 full ρ (fun _ => true) (k + (o :: l).length)).2 := by
      intro ρk lg' hok hlg hv
      subst hlg
      have same : ∀ (ρ : Nat → Rec), (∀ m, m < k → ρ m = ρ0 m) → ∀ m, m ≤ k → stp s0 full ρ (fun _ => true) m = stp s0 full ρ0 (fun _ => true) m := by
        intro ρ hρ m
        induction m with
        | zero => intro _; rfl
        | succ m ih => intro hm; simp only [stp, ih (by omega), hρ m (by omega)]
      have h1 : ∀ m, m < k → (fun m => if m = k then ρk else ρ0 m) m = ρ0 m := fun m hm => by simp only; rw [if_neg (by omega)]
      obtain ⟨ρ, sN, es, g1, g2, g3, g4, g5, g6⟩ := VOps_recs l (k + 1) (s.step o.dst ρk.r ρk.u) s0 (entOf (hget s.h) ρk :: lg) (fun m => if m = k then ρk else ρ0 m) hd' hv
        (by simp only [step_e, stp, if_true, same _ h1 k (Nat.le_refl _), ← he, hk, Option.bind_some]) (by simp only [step_h, stp, if_true, same _ h1 k (Nat.le_refl _), ← hh])
      have hρk : ρ k = ρk := by rw [g1 k (by omega)]; simp
      have hlt : ∀ m, m < k → ρ m = ρ0 m := fun m hm => by rw [g1 m (by omega)]; rw [if_neg (by omega)]
      refine ⟨ρ, sN, entOf (hget s.h) ρk :: es, hlt, by simpa using g2, by simp [g3], fun i o' hi => ?_, by rw [g5, List.length_cons]; congr 2; omega, by rw [g6, List.length_cons]; congr 2; omega⟩
      cases i with
      | zero =>
        simp only [List.getElem?_cons_zero, Option.some.injEq] at hi
        subst hi
        simp only [Nat.add_zero, hρk, same ρ hlt k (Nat.le_refl _), ← he, ← hh, List.getElem?_cons_zero]
        exact ⟨hok, trivial⟩
      | succ i =>
        have := g4 i o' (by simpa using hi)
        rw [show k + 1 + i = k + (i + 1) by omega] at this
        simpa using this
    have exec : (VOp P n nb o s (some lg) fun lg' s' => VOps P n nb full l s' lg' K) → (o.guard = none ∨ ∃ j want t, o.guard = some (j, want) ∧ gslot full j = some t ∧ eget s.e t = .d (.bool want)) →
        ∃ (ρ : Nat → Rec) (sN : St) (es : List Ent), (∀ m, m < k → ρ m = ρ0 m) ∧ K (some (es.reverse ++ lg)) sN ∧ es.length = (o :: l).length ∧
          (∀ i o', (o :: l)[i]? = some o' → RecOk P n nb full o' (stp s0 full ρ (fun _ => true) (k + i)).1 (stp s0 full ρ (fun _ => true) (k + i)).2 (ρ (k + i)) ∧ es[i]? = some (entOf (stp s0 full ρ (fun _ => true) (k + i)).2 (ρ (k + i)))) ∧
          eget sN.e = (stp s0 full ρ (fun _ => true) (k + (o :: l).length)).1 ∧ hget sN.h = (stp s0 full ρ (fun _ => true) (k + (o :: l).length)).2 := by
      intro hv hg
      obtain ⟨x, u, all, T, h1, h2, h3, h4⟩ := hv.elim
      refine key ⟨false, x, u, all, T⟩ _ ⟨h2, fun i y hm hn => (freshU_fresh h3 i y hm hn).1, ?_⟩ rfl h4
      simp only [Bool.false_eq_true, if_false]
      exact ⟨h1, hg⟩
    simp only [VOps] at h
    cases hg : o.guard with
    | none =>
      simp only [hg] at h
      exact exec h (.inl hg)
    | some jw =>
      obtain ⟨j, want⟩ := jw
      simp only [hg] at h
      cases hs : gslot full j with
      | none => simp only [hs] at h
      | some t =>
        simp only [hs] at h
        unfold VG at h
        split at h
        · rename_i g hgt
          by_cases hgw : g = want
          · subst hgw
            exact exec (h.1 rfl) (.inr ⟨j, g, t, hg, hs, hgt⟩)
          · obtain ⟨h1, h2⟩ := h.2 hgw
            refine key ⟨true, .tup [], [], false, []⟩ _ ⟨h1, fun i y hm => by simp at hm, ?_⟩ rfl h2
            simp only [if_true]
            exact ⟨trivial, trivial, j, want, t, hg, hs, .inr ⟨g, hgt, hgw⟩⟩
        · rename_i hgt
          obtain ⟨h1, h2⟩ := h
          refine key ⟨true, .tup [], [], false, []⟩ _ ⟨h1, fun i y hm => by simp at hm, ?_⟩ rfl h2
          simp only [if_true]
          exact ⟨trivial, trivial, j, want, t, hg, hs, .inl hgt⟩
        · exact h.elim

def opSlots (full : List Oper) (o : Oper) : List Nat :=
  (o.op.operands.toList.filterMap fun | .tmp t => some t | _ => none) ++ (match o.guard with | some (g, _) => (gslot full g).toList | none => [])

def ordered (bf : Array Nat) (i j : Nat) : Bool := if j < i then (bf.getD i 0).testBit j else (bf.getD j 0).testBit i

def meet (a b : List Nat) : Bool := a.any fun x => b.contains x

def pairOk (full : List Oper) (bf : Array Nat) (i j : Nat) (oi oj : Oper) (ei ej : Ent) : Bool :=
  i == j ||
  ((!((match oj.dst with | some t => (opSlots full oi).contains t || oi.dst == some t | none => false) || meet ej.w ei.t || (ei.all && !ej.w.isEmpty)) || ordered bf i j) &&
   (!meet ei.n (ej.t ++ ej.m) || (i < j && (bf.getD j 0).testBit i)))

def ordOk (full : List Oper) (lg : List Ent) : Bool :=
  (full.zip lg).zipIdx.all (fun (x, i) => (x.1.after.all fun e => !Region.binds .any e || e.on < i) && (full.zip lg).zipIdx.all fun (y, j) => pairOk full (Region.before full.toArray) i j x.1 y.1 x.2 y.2)

/-- What is made is new already where the region begins. -/
def newOk (s : St) : List Ent → Prop
  | [] => True
  | e :: r => (∀ i ∈ e.n, freshE i s.e ∧ freshH i s.h) ∧ newOk s r
end Go.AX
set_option linter.unusedVariables false
set_option linter.unusedSimpArgs false
namespace Go.AX

section
variable {s : St} {full : List Oper} {ρ : Nat → Rec}

theorem stp_E {done done' : Nat → Bool} {t : Nat} : ∀ m, (∀ j, j < m → (full[j]?).bind (·.dst) = some t → done j = done' j) → (stp s full ρ done m).1 t = (stp s full ρ done' m).1 t
  | 0, _ => rfl
  | m + 1, h => by
    have ih := stp_E (done := done) (done' := done') (t := t) m fun j hj => h j (by omega)
    have hp : ∀ (E : EF), (full[m]?).bind (·.dst) ≠ some t → putE E ((full[m]?).bind (·.dst)) (ρ m).r t = E t := fun E hne => by
      cases hd : (full[m]?).bind (·.dst) with
      | none => rfl
      | some d => simp only [putE]; rw [if_neg]; rintro rfl; exact hne hd
    simp only [stp]
    by_cases hd : (full[m]?).bind (·.dst) = some t
    · rw [h m (by omega) hd]
      split
      · simp only [hd, putE, if_true]
      · exact ih
    · split <;> split <;> first | exact ih | (simp only [hp _ hd]; exact ih)

theorem stp_H {done done' : Nat → Bool} {i : Nat} : ∀ m, (∀ j, j < m → i ∈ (ρ j).u.map (·.1) → done j = done' j) → (stp s full ρ done m).2 i = (stp s full ρ done' m).2 i
  | 0, _ => rfl
  | m + 1, h => by
    have ih := stp_H (done := done) (done' := done') (i := i) m fun j hj => h j (by omega)
    simp only [stp]
    by_cases hd : i ∈ (ρ m).u.map (·.1)
    · rw [h m (by omega) hd]
      split
      · simp only [updF_get, hd, if_true]
      · exact ih
    · split <;> split <;> first | exact ih | (simp only [updF_get, hd, if_false]; exact ih)

theorem stp_E_last {done : Nat → Bool} {i t : Nat} (hi : done i = true) (hd : (full[i]?).bind (·.dst) = some t) : ∀ m, i < m → (∀ j, i < j → j < m → (full[j]?).bind (·.dst) = some t → done j = false) → (stp s full ρ done m).1 t = (ρ i).r
  | 0, h, _ => by omega
  | m + 1, h, k => by
    simp only [stp]
    by_cases e : m = i
    · subst e; simp only [hi, if_true, hd, putE]
    · have ih := stp_E_last hi hd m (by omega) fun j h1 h2 => k j h1 (by omega)
      by_cases hdm : (full[m]?).bind (·.dst) = some t
      · rw [k m (by omega) (by omega) hdm]; simpa using ih
      · split
        · cases hx : (full[m]?).bind (·.dst) with
          | none => exact ih
          | some d => simp only [putE]; rw [if_neg (by rintro rfl; exact hdm hx)]; exact ih
        · exact ih

theorem stp_H_last {done : Nat → Bool} {i id : Nat} (hi : done i = true) (hd : id ∈ (ρ i).u.map (·.1)) : ∀ m, i < m → (∀ j, i < j → j < m → id ∈ (ρ j).u.map (·.1) → done j = false) → (stp s full ρ done m).2 id = hget (ρ i).u id
  | 0, h, _ => by omega
  | m + 1, h, k => by
    simp only [stp]
    by_cases e : m = i
    · subst e; simp only [hi, if_true, updF_get, hd]
    · have ih := stp_H_last hi hd m (by omega) fun j h1 h2 => k j h1 (by omega)
      by_cases hdm : id ∈ (ρ m).u.map (·.1)
      · rw [k m (by omega) (by omega) hdm]; simpa using ih
      · split
        · simp only [updF_get, hdm, if_false]; exact ih
        · exact ih

/-- Every value that a state holds comes from the begin or from an operation that is done. -/
theorem stp_E_from {done : Nat → Bool} {t : Nat} : ∀ m, (stp s full ρ done m).1 t = eget s.e t ∨ ∃ j, j < m ∧ done j = true ∧ (stp s full ρ done m).1 t = (ρ j).r
  | 0 => .inl rfl
  | m + 1 => by
    have ih := stp_E_from (done := done) (t := t) m
    simp only [stp]
    split
    · rename_i hm
      cases hx : (full[m]?).bind (·.dst) with
      | none => exact ih.imp (fun h => h) fun ⟨j, h1, h2, h3⟩ => ⟨j, by omega, h2, h3⟩
      | some d =>
        simp only [putE]
        by_cases e : t = d
        · rw [if_pos e]; exact .inr ⟨m, by omega, hm, rfl⟩
        · rw [if_neg e]; exact ih.imp (fun h => h) fun ⟨j, h1, h2, h3⟩ => ⟨j, by omega, h2, h3⟩
    · exact ih.imp (fun h => h) fun ⟨j, h1, h2, h3⟩ => ⟨j, by omega, h2, h3⟩

theorem stp_H_from {done : Nat → Bool} {i : Nat} : ∀ m, (stp s full ρ done m).2 i = hget s.h i ∨ ∃ j, j < m ∧ done j = true ∧ (stp s full ρ done m).2 i = hget (ρ j).u i
  | 0 => .inl rfl
  | m + 1 => by
    have ih := stp_H_from (done := done) (i := i) m
    simp only [stp]
    split
    · rename_i hm
      simp only [updF_get]
      by_cases e : i ∈ (ρ m).u.map (·.1)
      · rw [if_pos e]; exact .inr ⟨m, by omega, hm, rfl⟩
      · rw [if_neg e]; exact ih.imp (fun h => h) fun ⟨j, h1, h2, h3⟩ => ⟨j, by omega, h2, h3⟩
    · exact ih.imp (fun h => h) fun ⟨j, h1, h2, h3⟩ => ⟨j, by omega, h2, h3⟩
end

theorem updIds_get : ∀ {u : HL} {i : Nat} {o : AObj}, hget u i = some o → ∀ j ∈ o.ids, j ∈ updIds u
  | [], i, o, h, j, hj => by simp [hget] at h
  | (k, some o1) :: r, i, o, h, j, hj => by
    simp only [hget] at h
    simp only [updIds, List.mem_append]
    split at h
    · cases h; exact .inl hj
    · exact .inr (updIds_get h j hj)
  | (k, none) :: r, i, o, h, j, hj => by
    simp only [hget] at h
    simp only [updIds]
    split at h
    · cases h
    · exact updIds_get h j hj

theorem newIds_mem {H : HF} : ∀ {u : HL} {i : Nat} {x : AObj}, (i, some x) ∈ u → H i = none → i ∈ newIds H u
  | [], i, x, h, _ => by simp at h
  | (k, some o1) :: r, i, x, h, hn => by
    simp only [newIds, List.mem_append]
    rcases List.mem_cons.1 h with e | h
    · cases e; rw [hn]; exact .inl (by simp)
    · exact .inr (newIds_mem h hn)
  | (k, none) :: r, i, x, h, hn => by
    simp only [newIds]
    rcases List.mem_cons.1 h with e | h
    · cases e
    · exact newIds_mem h hn

theorem testBit_before (ops : Array Oper) (done : Nat → Bool) (hd : ∀ i o, ops[i]? = some o → done i = true → ∀ e ∈ o.after, Region.binds .any e = true → done e.on = true) :
    ∀ i j, ((Region.before ops).getD i 0).testBit j = true → done i = true → done j = true := by
  -- over prefixes
  have key : ∀ (l : List Oper) (acc : Array Nat), (∀ k o, l[k]? = some o → ops[acc.size + k]? = some o) → (∀ i j, (acc.getD i 0).testBit j = true → done i = true → done j = true) →
      ∀ i j, ((l.foldl (fun acc o => acc.push (o.after.foldl (fun s e => if Region.binds .any e then s ||| 2 ^ e.on ||| acc.getD e.on 0 else s) 0)) acc).getD i 0).testBit j = true → done i = true → done j = true := by
    intro l
    induction l with
    | nil => intro acc _ h; exact h
    | cons o r ih =>
      intro acc hl hacc
      simp only [List.foldl_cons]
      refine ih _ (fun k o' hk => ?_) ?_
      · rw [Array.size_push, show acc.size + 1 + k = acc.size + (k + 1) by omega]
        exact hl (k + 1) o' (by simpa using hk)
      · intro i j hb hi
        rw [Array.getD_eq_getD_getElem?, Array.getElem?_push] at hb
        split at hb
        · rename_i hia
          have ho := hl 0 o (by simp)
          rw [Nat.add_zero, ← hia] at ho
          simp only [Option.getD_some] at hb
          have hdi := hd i o ho hi
          -- the inner fold
          have inner : ∀ (es : List Edge) (s : Nat), (∀ e ∈ es, Region.binds .any e = true → done e.on = true) → (s.testBit j = true → done j = true) →
              (es.foldl (fun s e => if Region.binds .any e then s ||| 2 ^ e.on ||| acc.getD e.on 0 else s) s).testBit j = true → done j = true := by
            intro es
            induction es with
            | nil => intro s _ hs h; exact hs h
            | cons e es ihe =>
              intro s he hs h
              simp only [List.foldl_cons] at h
              refine ihe _ (fun e' h' => he e' (by simp [h'])) ?_ h
              split
              · rename_i hbind
                intro ht
                rw [Nat.testBit_or, Nat.testBit_or, Bool.or_eq_true, Bool.or_eq_true, Nat.testBit_two_pow] at ht
                have hon := he e (by simp) hbind
                rcases ht with (ht | ht) | ht
                · exact hs ht
                · simp only [decide_eq_true_eq] at ht; rw [← ht]; exact hon
                · exact hacc e.on j ht hon
              · exact hs
          rw [← Array.foldl_toList] at hb
          exact inner o.after.toList 0 (fun e he hbd => hdi e (by simpa using he) hbd) (by simp) hb
        · exact hacc i j (by rw [Array.getD_eq_getD_getElem?]; exact hb) hi
  have := key ops.toList #[] (fun k o hk => by simpa using hk) (fun i j h => by simp at h)
  unfold Region.before
  rw [← Array.foldl_toList]
  exact this
end Go.AX
set_option linter.unusedVariables false
set_option linter.unusedSimpArgs false
namespace Go.AX

theorem ordOk_spec {full : List Oper} {lg : List Ent} (h : ordOk full lg = true) {i : Nat} {oi : Oper} {ei : Ent} (ho : full[i]? = some oi) (he : lg[i]? = some ei) :
    (∀ e ∈ oi.after, Region.binds .any e = true → e.on < i) ∧ ∀ (j : Nat) (oj : Oper) (ej : Ent), full[j]? = some oj → lg[j]? = some ej → pairOk full (Region.before full.toArray) i j oi oj ei ej = true := by
  have mem : ∀ (k : Nat) (o : Oper) (e : Ent), full[k]? = some o → lg[k]? = some e → ((o, e), k) ∈ (full.zip lg).zipIdx := fun k o e h1 h2 => by
    rw [List.mem_zipIdx_iff_getElem?]
    simp [List.getElem?_zip_eq_some, h1, h2]
  unfold ordOk at h
  rw [List.all_eq_true] at h
  have h1 := h _ (mem i oi ei ho he)
  simp only [Bool.and_eq_true, List.all_eq_true, Array.all_eq_true_iff_forall_mem, Bool.or_eq_true, Bool.not_eq_true', decide_eq_true_eq] at h1
  refine ⟨fun e hm hb => (h1.1 e hm).resolve_left (by simp [hb]), fun j oj ej hj hej => h1.2 _ (mem j oj ej hj hej)⟩

theorem meet_of {a b : List Nat} {x : Nat} (h1 : x ∈ a) (h2 : x ∈ b) : meet a b = true := by
  unfold meet; rw [List.any_eq_true]; exact ⟨x, h1, by simpa using h2⟩

theorem newOk_get {s : St} : ∀ {lg : List Ent}, newOk s lg → ∀ (i : Nat) (e : Ent), lg[i]? = some e → ∀ x ∈ e.n, freshE x s.e ∧ freshH x s.h
  | [], _, i, e, h => by simp at h
  | a :: r, hn, 0, e, h => by simp at h; subst h; exact hn.1
  | a :: r, hn, i + 1, e, h => newOk_get hn.2 i e (by simpa using h)

theorem slot_mem {full : List Oper} {o : Oper} {t : Nat} (h : Operand.tmp t ∈ o.op.operands) : t ∈ opSlots full o := by
  unfold opSlots
  refine List.mem_append.2 (.inl (List.mem_filterMap.2 ⟨.tmp t, by simpa using h, rfl⟩))
theorem guard_mem {full : List Oper} {o : Oper} {j t : Nat} {w : Bool} (h : o.guard = some (j, w)) (hs : gslot full j = some t) : t ∈ opSlots full o := by
  unfold opSlots
  rw [h]
  simp only [hs, Option.toList_some]
  exact List.mem_append.2 (.inr (by simp))

/-- THE REGION, IN WHATEVER ORDER. -/
theorem drawn_any {P n nb} {full : List Oper} {B : Base} (hB : B.ok nb) {s : St} {ρ : Nat → Rec} {es : List Ent} {Q : Exit → Act → World → Prop} (hlen : es.length = full.length)
    (hrec : ∀ i o, full[i]? = some o → RecOk P n nb full o (stp s full ρ (fun _ => true) i).1 (stp s full ρ (fun _ => true) i).2 (ρ i) ∧ es[i]? = some (entOf (stp s full ρ (fun _ => true) i).2 (ρ i)))
    (hord : ordOk full es = true) (hnew : newOk s es)
    (hQ : ∀ a w, Cf n B (stp s full ρ (fun _ => true) full.length).1 (stp s full ρ (fun _ => true) full.length).2 a w → Q .normal a w) :
    ∀ (fuel : Nat) (listed : Array Bool) (a : Act) (w : World), listed.size = full.length → listed.toList.countP (fun b => !b) = fuel →
      (∀ i o, full[i]? = some o → listed.getD i false = true → ∀ e ∈ o.after, Region.binds .any e = true → listed.getD e.on false = true) →
      Cf n B (stp s full ρ (fun i => listed.getD i false) full.length).1 (stp s full ρ (fun i => listed.getD i false) full.length).2 a w →
      wpAny P .any full.toArray Q fuel listed a w := by
  have nextready : ∀ (listed : Array Bool), listed.size = full.length → Region.ready .any full.toArray listed = [] → ∀ i, i < full.length → listed.getD i false = true := by
    intro listed hsz hr i
    induction i using Nat.strongRecOn with
    | _ i ih =>
      intro hi
      cases hli : listed.getD i false with
      | true => rfl
      | false =>
        have ho : full[i]? = some full[i] := by simp [hi]
        obtain ⟨_, hek⟩ := hrec i _ ho
        have hpre := (ordOk_spec hord ho hek).1
        have : i ∈ Region.ready .any full.toArray listed := by
          rw [mem_ready]
          refine ⟨?_, full[i], by rw [List.getElem?_toArray]; exact ho, fun e he hb => ih e.on (hpre e he hb) (by have := hpre e he hb; omega)⟩
          rw [Array.getD_eq_getD_getElem?] at hli ⊢
          have : i < listed.size := by omega
          simp only [this, getElem?_pos, Option.getD_some] at hli ⊢
          exact hli
        rw [hr] at this
        cases this
  intro fuel
  induction fuel with
  | zero =>
    intro listed a w hsz hcnt hcl hc
    have hall : ∀ i, i < full.length → listed.getD i false = true := fun i hi => by
      rw [List.countP_eq_zero] at hcnt
      have hli : i < listed.size := by omega
      have := hcnt listed[i] (by simp)
      rw [Array.getD_eq_getD_getElem?]
      simpa [hli] using this
    refine ⟨?_, hQ a w ?_⟩
    · cases hr : Region.ready .any full.toArray listed with
      | nil => rfl
      | cons x r =>
        have hx : x ∈ Region.ready .any full.toArray listed := by rw [hr]; simp
        rw [mem_ready] at hx
        obtain ⟨h1, o, ho, _⟩ := hx
        rw [List.getElem?_toArray] at ho
        have hlt : x < full.length := (List.getElem?_eq_some_iff.1 ho).1
        have := hall x hlt
        rw [Array.getD_eq_getD_getElem?] at this h1
        have hli : x < listed.size := by omega
        simp only [hli, getElem?_pos, Option.getD_some] at this h1
        rw [this] at h1; cases h1
    · have e1 : (stp s full ρ (fun i => listed.getD i false) full.length).1 = (stp s full ρ (fun _ => true) full.length).1 := by
        funext t; exact stp_E _ fun j hj _ => hall j hj
      have e2 : (stp s full ρ (fun i => listed.getD i false) full.length).2 = (stp s full ρ (fun _ => true) full.length).2 := by
        funext t; exact stp_H _ fun j hj _ => hall j hj
      rwa [e1, e2] at hc
  | succ fuel ih =>
    intro listed a w hsz hcnt hcl hc
    refine ⟨fun hr => ?_, fun i hi => ?_⟩
    · exfalso
      have hall := nextready listed hsz hr
      have : listed.toList.countP (fun b => !b) = 0 := by
        rw [List.countP_eq_zero]
        intro b hb
        obtain ⟨i, hi, rfl⟩ := List.getElem_of_mem hb
        have hi' : i < listed.size := by simpa using hi
        have := hall i (by omega)
        rw [Array.getD_eq_getD_getElem?] at this
        simpa [hi'] using this
      omega
    · rw [mem_ready] at hi
      obtain ⟨hun, o, ho, hpreds⟩ := hi
      rw [List.getElem?_toArray] at ho
      have hin : i < full.length := (List.getElem?_eq_some_iff.1 ho).1
      have hil : i < listed.size := by omega
      have hnot : listed.getD i false = false := by
        rw [Array.getD_eq_getD_getElem?] at hun ⊢
        simpa [hil] using hun
      obtain ⟨hok, hek⟩ := hrec i o ho
      -- what is done is closed, and a pair that meets is ordered
      have hbef := testBit_before full.toArray (fun k => listed.getD k false) fun k o' ho' hk e he hb => hcl k o' (by rwa [List.getElem?_toArray] at ho') hk e he hb
      have hbef' := testBit_before full.toArray (fun k => listed.getD k false || k == i) fun k o' ho' hk e he hb => by
        rw [List.getElem?_toArray] at ho'
        simp only [Bool.or_eq_true, beq_iff_eq] at hk ⊢
        rcases hk with hk | hk
        · exact .inl (hcl k o' ho' hk e he hb)
        · subst hk
          rw [ho] at ho'; cases ho'
          exact .inl (hpreds e he hb)
      have ord : ∀ j oj, full[j]? = some oj → j ≠ i → ordered (Region.before full.toArray) i j = true → (listed.getD j false = decide (j < i)) := by
        intro j oj hj hne h
        unfold ordered at h
        by_cases hji : j < i
        · rw [if_pos hji] at h
          have := hbef' i j h (by simp)
          simp only [Bool.or_eq_true, beq_iff_eq] at this
          rcases this with h1 | h1
          · rw [h1]; simp [hji]
          · exact absurd h1 hne
        · rw [if_neg hji] at h
          cases hlj : listed.getD j false with
          | true =>
            have := hbef j i h hlj
            rw [hnot] at this; cases this
          | false => simp [hji]
      have pr : ∀ j oj, full[j]? = some oj → j ≠ i → pairOk full (Region.before full.toArray) i j o oj (entOf (stp s full ρ (fun _ => true) i).2 (ρ i)) (entOf (stp s full ρ (fun _ => true) j).2 (ρ j)) = true := fun j oj hj _ =>
        (ordOk_spec hord ho hek).2 j oj _ hj (hrec j oj hj).2
      -- a slot that the operation looks at or writes
      have slotw : ∀ t, (t ∈ opSlots full o ∨ o.dst = some t) → ∀ j, j < full.length → j ≠ i → (full[j]?).bind (·.dst) = some t → listed.getD j false = decide (j < i) := by
        intro t ht j hj hne hd
        obtain ⟨oj, hoj⟩ : ∃ oj, full[j]? = some oj := ⟨full[j], by simp [hj]⟩
        rw [hoj] at hd
        simp only [Option.bind_some] at hd
        have := pr j oj hoj hne
        unfold pairOk at this
        have hij : ¬ i = j := fun e => hne e.symm
        simp only [hij, beq_iff_eq, Bool.or_eq_true, false_or, Bool.and_eq_true, Bool.not_eq_true', hd] at this
        rcases this.1 with h1 | h1
        · exfalso
          simp only [Bool.or_eq_false_iff, Bool.and_eq_false_iff] at h1
          rcases ht with ht | ht
          · have := h1.1.1.1
            simp [ht] at this
          · have := h1.1.1.2
            simp [ht] at this
        · exact ord j oj hoj hne h1
      have heapw : ∀ x, x ∈ (entOf (stp s full ρ (fun _ => true) i).2 (ρ i)).t → ∀ j, j < full.length → j ≠ i → x ∈ (ρ j).u.map (·.1) → listed.getD j false = decide (j < i) := by
        intro x hx j hj hne hd
        obtain ⟨oj, hoj⟩ : ∃ oj, full[j]? = some oj := ⟨full[j], by simp [hj]⟩
        have := pr j oj hoj hne
        unfold pairOk at this
        have hij : ¬ i = j := fun e => hne e.symm
        simp only [hij, beq_iff_eq, Bool.or_eq_true, false_or, Bool.and_eq_true, Bool.not_eq_true'] at this
        rcases this.1 with h1 | h1
        · exfalso
          simp only [Bool.or_eq_false_iff] at h1
          have h2 : meet (entOf (stp s full ρ (fun _ => true) j).2 (ρ j)).w (entOf (stp s full ρ (fun _ => true) i).2 (ρ i)).t = true := meet_of (x := x) (by simp only [entOf]; exact hd) hx
          rw [h1.1.2] at h2; cases h2
        · exact ord j oj hoj hne h1
      have allw : (ρ i).all = true → ∀ j, j < full.length → j ≠ i → (ρ j).u ≠ [] → listed.getD j false = decide (j < i) := by
        intro ha j hj hne hd
        obtain ⟨oj, hoj⟩ : ∃ oj, full[j]? = some oj := ⟨full[j], by simp [hj]⟩
        have := pr j oj hoj hne
        unfold pairOk at this
        have hij : ¬ i = j := fun e => hne e.symm
        simp only [hij, beq_iff_eq, Bool.or_eq_true, false_or, Bool.and_eq_true, Bool.not_eq_true'] at this
        rcases this.1 with h1 | h1
        · exfalso
          simp only [Bool.or_eq_false_iff, Bool.and_eq_false_iff] at h1
          have h2 := h1.2
          simp [entOf, ha, hd] at h2
        · exact ord j oj hoj hne h1
      have neww : ∀ x, x ∈ (entOf (stp s full ρ (fun _ => true) i).2 (ρ i)).n → ∀ j, j < full.length → j ≠ i → x ∈ (entOf (stp s full ρ (fun _ => true) j).2 (ρ j)).t ++ (entOf (stp s full ρ (fun _ => true) j).2 (ρ j)).m → listed.getD j false = false := by
        intro x hx j hj hne hd
        obtain ⟨oj, hoj⟩ : ∃ oj, full[j]? = some oj := ⟨full[j], by simp [hj]⟩
        have := pr j oj hoj hne
        unfold pairOk at this
        have hij : ¬ i = j := fun e => hne e.symm
        simp only [hij, beq_iff_eq, Bool.or_eq_true, false_or, Bool.and_eq_true, Bool.not_eq_true', decide_eq_true_eq] at this
        rcases this.2 with h1 | ⟨h1, h2⟩
        · rw [meet_of hx hd] at h1; cases h1
        · cases hlj : listed.getD j false with
          | false => rfl
          | true => have := hbef j i h2 hlj; rw [hnot] at this; cases this
      -- the canonical state at i, with what comes after left out
      have stp0 : ∀ m, i ≤ m → stp s full ρ (fun j => decide (j < i)) m = stp s full ρ (fun _ => true) i := by
        intro m hm
        obtain ⟨d, rfl⟩ : ∃ d, m = i + d := ⟨m - i, by omega⟩
        clear hm
        induction d with
        | zero =>
          have : ∀ k, k ≤ i → stp s full ρ (fun j => decide (j < i)) k = stp s full ρ (fun _ => true) k := by
            intro k
            induction k with
            | zero => intro _; rfl
            | succ k ihk =>
              intro hk
              have hlt : k < i := by omega
              simp only [stp, ihk (by omega), hlt, decide_true, if_true]
          exact this i (Nat.le_refl _)
        | succ d ihd =>
          rw [← Nat.add_assoc]
          have hlt : ¬ (i + d < i) := by omega
          simp only [stp, hlt, decide_false, Bool.false_eq_true, if_false]
          exact ihd
      have stp1 := stp0 full.length (by omega)
      have agE : ∀ t, t ∈ opSlots full o → (stp s full ρ (fun k => listed.getD k false) full.length).1 t = (stp s full ρ (fun _ => true) i).1 t := by
        intro t ht
        rw [← stp1]
        refine stp_E _ fun j hj hd => ?_
        by_cases e : j = i
        · subst e; simp only [hnot, Nat.lt_irrefl, decide_false]
        · exact slotw t (.inl ht) j hj e hd
      have agH : ∀ x, x ∈ (entOf (stp s full ρ (fun _ => true) i).2 (ρ i)).t → (stp s full ρ (fun k => listed.getD k false) full.length).2 x = (stp s full ρ (fun _ => true) i).2 x := by
        intro x hx
        rw [← stp1]
        refine stp_H _ fun j hj hd => ?_
        by_cases e : j = i
        · subst e; simp only [hnot, Nat.lt_irrefl, decide_false]
        · exact heapw x hx j hj e hd
      have agA : (ρ i).all = true → (stp s full ρ (fun k => listed.getD k false) full.length).2 = (stp s full ρ (fun _ => true) i).2 := by
        intro ha
        funext x
        rw [← stp1]
        refine stp_H _ fun j hj hd => ?_
        by_cases e : j = i
        · subst e; simp only [hnot, Nat.lt_irrefl, decide_false]
        · exact allw ha j hj e (by intro h0; rw [h0] at hd; simp at hd)
      have hL' : ∀ k, (listed.setIfInBounds i true).getD k false = (listed.getD k false || k == i) := by
        intro k
        rw [Array.getD_eq_getD_getElem?, Array.getD_eq_getD_getElem?, Array.getElem?_setIfInBounds]
        by_cases e : i = k
        · subst e; simp [hil]
        · simp only [e, if_false]
          have : (k == i) = false := by simpa using fun h => e h.symm
          rw [this, Bool.or_false]
      have hodst : (full[i]?).bind (·.dst) = o.dst := by rw [ho]; rfl
      have newE : putE (stp s full ρ (fun k => listed.getD k false) full.length).1 o.dst (ρ i).r = (stp s full ρ (fun k => (listed.setIfInBounds i true).getD k false) full.length).1 := by
        funext t
        by_cases hd : o.dst = some t
        · rw [stp_E_last (i := i) (t := t) (by rw [hL' i]; simp) (by rw [hodst]; exact hd) full.length hin fun j h1 h2 h3 => ?_]
          · rw [hd]; simp only [putE, if_true]
          · rw [hL' j, slotw t (.inr hd) j h2 (by omega) h3]
            simp only [Bool.or_eq_false_iff, decide_eq_false_iff_not, beq_eq_false_iff_ne]
            omega
        · have : putE (stp s full ρ (fun k => listed.getD k false) full.length).1 o.dst (ρ i).r t = (stp s full ρ (fun k => listed.getD k false) full.length).1 t := by
            cases hx : o.dst with
            | none => rfl
            | some d => simp only [putE]; rw [if_neg]; rintro rfl; exact hd hx
          rw [this]
          refine stp_E _ fun j hj hdj => ?_
          rw [hL' j]
          have hne : j ≠ i := by rintro rfl; rw [hodst] at hdj; exact hd hdj
          have : (j == i) = false := by simpa using hne
          rw [this, Bool.or_false]
      have newH : updF (stp s full ρ (fun k => listed.getD k false) full.length).2 (ρ i).u = (stp s full ρ (fun k => (listed.setIfInBounds i true).getD k false) full.length).2 := by
        funext x
        rw [updF_get]
        by_cases hd : x ∈ (ρ i).u.map (·.1)
        · rw [if_pos hd, stp_H_last (i := i) (id := x) (by rw [hL' i]; simp) hd full.length hin fun j h1 h2 h3 => ?_]
          rw [hL' j, heapw x (by simp only [entOf, List.mem_append]; exact .inr hd) j h2 (by omega) h3]
          simp only [Bool.or_eq_false_iff, decide_eq_false_iff_not, beq_eq_false_iff_ne]
          omega
        · rw [if_neg hd]
          refine stp_H _ fun j hj hdj => ?_
          rw [hL' j]
          have hne : j ≠ i := by rintro rfl; exact hd hdj
          have : (j == i) = false := by simpa using hne
          rw [this, Bool.or_false]
      have next : ∀ a' w', Cf n B (putE (stp s full ρ (fun k => listed.getD k false) full.length).1 o.dst (ρ i).r) (updF (stp s full ρ (fun k => listed.getD k false) full.length).2 (ρ i).u) a' w' → wpAny P .any full.toArray Q fuel (listed.setIfInBounds i true) a' w' := by
        intro a' w' hc'
        rw [newE, newH] at hc'
        refine ih _ a' w' (by simp [hsz]) ?_ ?_ hc'
        · have hg : listed[i] = false := by
            rw [Array.getD_eq_getD_getElem?] at hnot
            simpa [hil] using hnot
          rw [Array.toList_setIfInBounds, List.countP_set (by simpa using hil)]
          simp only [Array.getElem_toList, hg, Bool.not_false, Bool.not_true, if_true, Bool.false_eq_true, if_false]
          omega
        · intro k ok hk hkl e he hb
          rw [hL' k] at hkl
          rw [hL' e.on]
          simp only [Bool.or_eq_true, beq_iff_eq] at hkl ⊢
          rcases hkl with hkl | hkl
          · exact .inl (hcl k ok hk hkl e he hb)
          · subst hkl
            rw [ho] at hk; cases hk
            exact .inl (hpreds e he hb)
      obtain ⟨hdst, hnb, hrest⟩ := hok
      unfold wpOp
      simp only [List.getElem?_toArray, ho]
      obtain ⟨A, β, hcf, htr⟩ := hc
      by_cases hsk : (ρ i).skip = true
      · rw [if_pos hsk] at hrest
        obtain ⟨hr, hu, j, want, t, hg, hgs, hE⟩ := hrest
        have hw : Region.wanted o (yielded full.toArray a.tmps) = false := by
          rcases hE with hE | ⟨g, hE, hne⟩
          · have hy := guard_undef hcf hgs (by rw [agE t (guard_mem hg hgs)]; exact hE)
            simp only [Region.wanted, hg, hy]; rfl
          · have hy := guard_val hcf hgs (by rw [agE t (guard_mem hg hgs)]; exact hE)
            simp only [Region.wanted, hg, hy]
            simpa using hne
        rw [hw]
        simp only [Bool.false_eq_true, if_false]
        refine next _ w ?_
        rw [hr, hu, show updF (stp s full ρ (fun k => listed.getD k false) full.length).2 [] = (stp s full ρ (fun k => listed.getD k false) full.length).2 from rfl]
        exact ⟨A, β, hcf.put (fun d hd => by rw [hd] at hdst; exact hdst) (by simp only [RepV]; exact ⟨#[], rfl, by simp [RepVs]⟩), htr⟩
      · rw [if_neg hsk] at hrest
        obtain ⟨hls, hg⟩ := hrest
        have hw : Region.wanted o (yielded full.toArray a.tmps) = true := by
          rcases hg with hg | ⟨j, want, t, hg, hgs, hE⟩
          · simp [Region.wanted, hg]
          · have hy := guard_val hcf hgs (by rw [agE t (guard_mem hg hgs)]; exact hE)
            simp only [Region.wanted, hg, hy]
            simp
        rw [hw]
        simp only [if_true]
        have hone : ∀ x, x ∈ (ρ i).u.map (·.1) → (stp s full ρ (fun k => listed.getD k false) full.length).2 x = (stp s full ρ (fun _ => true) i).2 x := fun x hx =>
          agH x (by simp only [entOf, List.mem_append]; exact .inr hx)
        have hsem := hls (stp s full ρ (fun k => listed.getD k false) full.length).1 (stp s full ρ (fun k => listed.getD k false) full.length).2 (fun x hx => by
            cases x with
            | tmp t => exact agE t (slot_mem hx)
            | const v => rfl
            | global g => rfl
            | func f => rfl) agA (fun x hx => agH x (by simp only [entOf, List.mem_append]; exact .inl hx)) fun x y hm hn => by
          have hxm : x ∈ (ρ i).u.map (·.1) := List.mem_map.2 ⟨(x, some y), hm, rfl⟩
          have hcn : (stp s full ρ (fun _ => true) i).2 x = none := by rw [← hone x hxm]; exact hn
          have hxn : x ∈ (entOf (stp s full ρ (fun _ => true) i).2 (ρ i)).n := newIds_mem hm hcn
          obtain ⟨f1, f2⟩ := newOk_get hnew i _ hek x hxn
          have notdone : ∀ j, j < full.length → listed.getD j false = true → x ∈ (entOf (stp s full ρ (fun _ => true) j).2 (ρ j)).t ++ (entOf (stp s full ρ (fun _ => true) j).2 (ρ j)).m → False := fun j hj hdj hx => by
            have := neww x hxn j hj (by rintro rfl; rw [hnot] at hdj; cases hdj) hx
            rw [hdj] at this; cases this
          refine ⟨hn, fun t => ?_, fun j oj hj => ?_⟩
          · rcases stp_E_from (s := s) (full := full) (ρ := ρ) (done := fun k => listed.getD k false) (t := t) full.length with h1 | ⟨j, h1, h2, h3⟩
            · rw [h1]; exact freshE_get f1 t
            · rw [h3]
              intro hx
              exact notdone j h1 h2 (by simp only [entOf, List.mem_append]; exact .inr (.inl hx))
          · rcases stp_H_from (s := s) (full := full) (ρ := ρ) (done := fun k => listed.getD k false) (i := j) full.length with h1 | ⟨k, h1, h2, h3⟩
            · rw [h1] at hj
              exact (freshH_get f2).2 j oj hj
            · rw [h3] at hj
              intro hx
              exact notdone k h1 h2 (by simp only [entOf, List.mem_append]; exact .inr (.inr (updIds_get hj x hx)))
        refine .inl (hsem.on (nb := nb) (fun x hn hu => ?_) hB ⟨A, β, hcf, htr⟩ next)
        obtain ⟨y, hy⟩ := updF_new hn hu
        have hxm : x ∈ (ρ i).u.map (·.1) := List.mem_map.2 ⟨(x, some y), hy, rfl⟩
        exact hnb x y hy (by rw [← hone x hxm]; exact hn)
end Go.AX
set_option linter.unusedVariables false
set_option linter.unusedSimpArgs false
namespace Go.AX

/-- What is still to do, from a state on, comes to its return in a state of 'R'. -/
def Walk0 (P : Program) (n nb : Nat) (todo : List Item) (R : St → Prop) (s : St) : Prop :=
  ∀ B : Base, B.ok nb → ∀ (a : Act) (w : World), Cf n B (eget s.e) (hget s.h) a w → ∀ (b : Frame) (cs : List Frame),
    ∃ a' w' todo' s', Steps P (lone (b.at a todo) cs w) (lone { b.at a' todo' with mode := .returning } cs w') ∧ R s' ∧ Cf n B (eget s'.e) (hget s'.h) a' w'

section
variable {P : Program} {n nb : Nat} {R : St → Prop} {s : St} {k : List Item}

theorem Walk0.of_step {todo todo' : List Item} (h : ∀ b a cs w, step P (lone (Frame.at b a todo) cs w) = .next (lone (b.at a todo') cs w)) (h' : Walk0 P n nb todo' R s) : Walk0 P n nb todo R s := by
  intro B hB a w hc b cs
  obtain ⟨a', w', t', s', h1, h2⟩ := h' B hB a w hc b cs
  exact ⟨a', w', t', s', .head (h b a cs w) h1, h2⟩
theorem Walk0.skip (h : Walk0 P n nb k R s) : Walk0 P n nb (.code .skip :: k) R s := .of_step (fun _ _ _ _ => step_skip) h
theorem Walk0.label {l : Nat} (h : Walk0 P n nb k R s) : Walk0 P n nb (.code (.label l) :: k) R s := .of_step (fun _ _ _ _ => step_label) h
theorem Walk0.inBlock {id : Nat} (h : Walk0 P n nb k R s) : Walk0 P n nb (.inBlock id :: k) R s := .of_step (fun _ _ _ _ => step_inBlock) h
theorem Walk0.inScope {c : Code} (h : Walk0 P n nb k R s) : Walk0 P n nb (.inScope c :: k) R s := .of_step (fun _ _ _ _ => step_inScope) h
theorem Walk0.seq {x y : Code} (h : Walk0 P n nb (.code x :: .code y :: k) R s) : Walk0 P n nb (.code (.seq x y) :: k) R s := .of_step (fun _ _ _ _ => step_seq) h
theorem Walk0.block {id : Nat} {c : Code} (h : Walk0 P n nb (.code c :: .inBlock id :: k) R s) : Walk0 P n nb (.code (.block id c) :: k) R s := .of_step (fun _ _ _ _ => step_block) h
theorem Walk0.scope {c : Code} (h : Walk0 P n nb (.code c :: .inScope c :: k) R s) : Walk0 P n nb (.code (.scope c) :: k) R s := .of_step (fun _ _ _ _ => step_scope) h
theorem Walk0.loop {c : Code} (h : Walk0 P n nb (.inLoop c :: k) R s) : Walk0 P n nb (.code (.loop c) :: k) R s := by
  intro B hB a w hc b cs
  obtain ⟨a', w', t', s', h1, h2⟩ := h B hB a w hc b cs
  refine ⟨a', w', t', s', ?_, h2⟩
  obtain ⟨m, hm⟩ := h1
  cases m with
  | zero =>
    simp only [runN, lone] at hm
    injection hm with hm
    injection hm with _ hg
    have := congrArg (·[0]?) hg
    simp [Frame.at] at this
  | succ m =>
    simp only [runN, step_inLoop] at hm
    exact ⟨m + 1, by simp only [runN, step_loop]; exact hm⟩
theorem Walk0.inLoop {c : Code} (h : Walk0 P n nb (.code c :: .inLoop c :: k) R s) : Walk0 P n nb (.inLoop c :: k) R s := .of_step (fun _ _ _ _ => step_inLoop) h
theorem Walk0.exit {id : Nat} {k' : List Item} (hk : exitTo id k = some k') (h : Walk0 P n nb k' R s) : Walk0 P n nb (.code (.exit id) :: k) R s := .of_step (fun _ _ _ _ => step_exit hk) h
theorem Walk0.ret (h : R s) : Walk0 P n nb (.code .ret :: k) R s := fun B hB a w hc b cs => ⟨a, w, _, s, .one step_ret, h, hc⟩
theorem Walk0.done (h : R s) : Walk0 P n nb [] R s := fun B hB a w hc b cs => ⟨a, w, _, s, .one step_end, h, hc⟩

/-- A branch: both ways. -/
theorem Walk0.cond {c : Operand} {x y : Code} {t : Bool} (hc : evalA (eget s.e) c = .d (.bool t)) (ht : t = true → Walk0 P n nb (.code x :: k) R s) (hf : t = false → Walk0 P n nb (.code y :: k) R s) :
    Walk0 P n nb (.code (.cond c x y) :: k) R s := by
  intro B hB a w hcf b cs
  obtain ⟨A, β, h1, h2⟩ := hcf
  have he := h1.eval c
  rw [hc] at he
  simp only [RepV, RepD] at he
  cases t with
  | true =>
    obtain ⟨a', w', t', s', g1, g2⟩ := ht rfl B hB a w ⟨A, β, h1, h2⟩ b cs
    exact ⟨a', w', t', s', .head (step_cond he) g1, g2⟩
  | false =>
    obtain ⟨a', w', t', s', g1, g2⟩ := hf rfl B hB a w ⟨A, β, h1, h2⟩ b cs
    exact ⟨a', w', t', s', .head (step_cond he) g1, g2⟩

/-- A region in the text's order. -/
theorem Walk0.region {id : Nat} {ops : Array Oper} {full : List Oper} (hf : ops = full.toArray) (h : VOps P n nb full full s none fun _ s' => Walk0 P n nb k R s') : Walk0 P n nb (.code (.region id ops false) :: k) R s := by
  subst hf
  intro B hB a w hc b cs
  have hw := VOps_run full hB full 0 s none a w rfl h hc
  rw [← List.range_eq_range'] at hw
  obtain ⟨e, a1, w1, ⟨rfl, lg, s1, hk, hc1⟩, harr⟩ := wp_ops _ a w hw b k cs
  obtain ⟨a', w', t', s', g1, g2⟩ := hk B hB a1 w1 hc1 b cs
  refine ⟨a', w', t', s', .head step_region ?_, g2⟩
  have e1 : List.range full.toArray.size = List.range full.length := by simp
  rw [e1]
  exact Steps.trans harr g1

theorem keep_drew (w : World) (β : BF) (i : Nat) (o : AObj) : Keep w { w with drawn := w.drawn + 1 } β β i o o := by
  cases o with
  | box _ => exact ⟨rfl, fun _ _ => rfl⟩
  | pre _ => exact ⟨rfl, fun _ _ => rfl⟩
  | arr _ _ _ => exact ⟨rfl, rfl, Nat.le_refl _, fun _ => ⟨rfl, fun b hb => blkSize_of_heap rfl⟩⟩
theorem CfgF.drew' {n A β E H a w} (h : CfgF n A β E H a w) : CfgF n A β E H a { w with drawn := w.drawn + 1 } ∧ Trans w A β H { w with drawn := w.drawn + 1 } A β H := by
  have hk : ∀ i o', H i = some o' → ∃ o, H i = some o ∧ Keep w { w with drawn := w.drawn + 1 } β β i o o' := fun i o' ho => ⟨o', ho, keep_drew w β i o'⟩
  refine ⟨h.update (fun _ h => h) (fun _ _ => rfl) (fun i o' ho => .inl (hk i o' ho)) ?_, ?_⟩
  · refine ⟨fun id cs hi => ?_, fun id T sz es hi => ?_, h.heap.inj, h.heap.sepA, h.heap.bound, fun id ds hi => ?_⟩
    · obtain ⟨b, c, T, h1, h2, h3⟩ := h.heap.box id cs hi
      exact ⟨b, c, T, h1, h2, RepVs.stable (w := w) (w' := { w with drawn := w.drawn + 1 }) (fun _ h => h) (fun _ _ => rfl) _ _ (fun i _ o' ho => hk i o' ho) h3⟩
    · obtain ⟨h1, h2⟩ := h.heap.arr id T sz es hi
      exact ⟨h1, h2.imp (fun h => h) fun ⟨b, c, g1, g2, g3, g4⟩ => ⟨b, c, g1, g2, g3, RepEs.stable (w := w) (w' := { w with drawn := w.drawn + 1 }) (fun _ h => h) (fun _ _ => rfl) b sz rfl 0 es g4⟩⟩
    · obtain ⟨b, c, T, vs, us, h1, h2, h3, h4⟩ := h.heap.pre id ds hi
      exact ⟨b, c, T, vs, us, h1, h2, h3, RepVs.stableD (w := w) (w' := { w with drawn := w.drawn + 1 }) (fun _ h => h) (fun _ _ => rfl) h4⟩
  · exact ⟨Nat.le_refl _, rfl, rfl, rfl, fun _ _ _ => rfl, fun _ h => h, fun _ h => .inl h, fun i b hi hb => .inr ⟨i, hi, hb⟩, fun i o o' h1 h2 => by rw [h1] at h2; cases h2; exact keep_drew w β i o⟩

theorem Walk0.drawn {id : Nat} {ops : Array Oper} {full : List Oper} (hf : ops = full.toArray) (hm : P.follows .mixedOrders = true)
    (h : VOps P n nb full full s (some []) fun lg s' => ordOk full (lg.getD []).reverse = true ∧ newOk s (lg.getD []).reverse ∧ Walk0 P n nb k R s') : Walk0 P n nb (.code (.region id ops true) :: k) R s := by
  subst hf
  intro B hB a w hc b cs
  obtain ⟨ρ, sN, es, _, ⟨k1, k2, k3⟩, k4, k5, k6, k7⟩ := VOps_recs full 0 s s [] (fun _ => default) rfl h rfl rfl
  simp only [List.append_nil, Option.getD_some, List.reverse_reverse, Nat.zero_add] at k1 k2 k5 k6 k7
  have hc0 : Cf n B (eget s.e) (hget s.h) a { w with drawn := w.drawn + 1 } := by
    obtain ⟨A, β, g1, g2⟩ := hc
    exact ⟨A, β, g1.drew'.1, g2.comp g1.drew'.2 fun _ _ h => h⟩
  have hany := drawn_any (P := P) (nb := nb) hB (s := s) (ρ := ρ) (es := es) (full := full) (Q := fun e a' w' => e = .normal ∧ Cf n B (eget sN.e) (hget sN.h) a' w') k4 k5 k1 k2
    (fun a' w' hc' => ⟨rfl, by rw [k6, k7]; exact hc'⟩) full.length (Array.replicate full.length false) a { w with drawn := w.drawn + 1 } (by simp)
    (by simp [List.countP_replicate]) (fun i o ho hl => by
      rw [Array.getD_eq_getD_getElem?, Array.getElem?_replicate] at hl
      split at hl <;> simp at hl)
    (by
      have : ∀ m, stp s full ρ (fun i => (Array.replicate full.length false).getD i false) m = (eget s.e, hget s.h) := by
        intro m
        induction m with
        | zero => rfl
        | succ m ih =>
          have : (Array.replicate full.length false).getD m false = false := by
            rw [Array.getD_eq_getD_getElem?, Array.getElem?_replicate]
            split <;> rfl
          simp only [stp, this, Bool.false_eq_true, if_false, ih]
      rw [this]; exact hc0)
  have hw := wpAny_sound _ (w.tape w.drawn (.order b.fn id)) _ _ _ hany
  obtain ⟨e, a1, w1, ⟨rfl, hc1⟩, harr⟩ := wp_ops _ a _ hw b k cs
  obtain ⟨a', w', t', s', g1, g2⟩ := k3 B hB a1 w1 hc1 b cs
  refine ⟨a', w', t', s', .head step_region_draw ?_, g2⟩
  have e1 : Region.schedule (P.follows .mixedOrders) full.toArray (w.tape w.drawn (.order b.fn id)) = Region.linearise.go .any full.toArray full.length (w.tape w.drawn (.order b.fn id)) (Array.replicate full.length false) [] := by
    simp only [Region.schedule, hm, Bool.true_or, if_true]
    rfl
  rw [e1]
  exact Steps.trans harr g1
/-- The same, with what follows kept shut. -/
theorem Walk0.region' {id : Nat} {ops : Array Oper} {full : List Oper} (hf : ops = full.toArray) (h : ∀ K : St → Prop, (∀ s', Walk0 P n nb k R s' → K s') → VOps P n nb full full s none fun _ s' => K s') : Walk0 P n nb (.code (.region id ops false) :: k) R s :=
  .region hf (h _ fun _ h => h)
theorem Walk0.drawn' {id : Nat} {ops : Array Oper} {full : List Oper} (hf : ops = full.toArray) (hm : P.follows .mixedOrders = true)
    (h : ∀ K : Log → St → Prop, (∀ lg s', ordOk full (lg.getD []).reverse = true → newOk s (lg.getD []).reverse → Walk0 P n nb k R s' → K lg s') → VOps P n nb full full s (some []) K) : Walk0 P n nb (.code (.region id ops true) :: k) R s :=
  .drawn hf hm (h _ fun _ _ h1 h2 h3 => ⟨h1, h2, h3⟩)
end
end Go.AX
set_option linter.unusedVariables false
set_option linter.unusedSimpArgs false
namespace Go.AX

/-- A part of an environment, of a heap. -/
def subE (E : EF) : EL → Prop
  | [] => True
  | (t, x) :: r => E t = x ∧ subE E r
def subH (H : HF) : HL → Prop
  | [] => True
  | (i, o) :: r => H i = o ∧ subH H r

theorem subE_get {E : EF} : ∀ {e : EL}, subE E e → ∀ t, eget e t = .any ∨ eget e t = E t
  | [], _, t => .inl rfl
  | (j, x) :: r, h, t => by
    simp only [eget]
    split
    · rename_i e; subst e; exact .inr h.1.symm
    · exact subE_get h.2 t
theorem subH_get {H : HF} : ∀ {h : HL}, subH H h → ∀ i, hget h i = none ∨ hget h i = H i
  | [], _, i => .inl rfl
  | (j, x) :: r, h, i => by
    simp only [hget]
    split
    · rename_i e; subst e; exact .inr h.1.symm
    · exact subH_get h.2 i

section
variable {P : Program} {n nb : Nat} {R : St → Prop} {s : St} {k : List Item}

theorem Walk0.weaken (s' : St) (hE : subE (eget s.e) s'.e) (hH : subH (hget s.h) s'.h) (h : Walk0 P n nb k R s') : Walk0 P n nb k R s := by
  intro B hB a w hc b cs
  obtain ⟨A, β, h1, h2⟩ := hc
  obtain ⟨g1, g2⟩ := h1.weaken (subE_get hE) (subH_get hH)
  refine h B hB a w ⟨A, β, g1, h2.comp g2 fun i _ hi => ?_⟩ b cs
  rcases subH_get hH i with h3 | h3
  · exact h3
  · rw [h3]; exact hi

theorem Walk0.mono {R' : St → Prop} (h : Walk0 P n nb k R s) (hR : ∀ s, R s → R' s) : Walk0 P n nb k R' s := by
  intro B hB a w hc b cs
  obtain ⟨a', w', t', s', h1, h2, h3⟩ := h B hB a w hc b cs
  exact ⟨a', w', t', s', h1, hR _ h2, h3⟩

theorem VOps_mono {full : List Oper} : ∀ (l : List Oper) {s : St} {lg : Log} {K K' : Log → St → Prop}, VOps P n nb full l s lg K → (∀ a b, K a b → K' a b) → VOps P n nb full l s lg K'
  | [], s, lg, K, K', h, hk => hk _ _ h
  | o :: r, s, lg, K, K', h, hk => by
    have one : ∀ {s : St} {lg : Log}, VOp P n nb o s lg (fun lg' s' => VOps P n nb full r s' lg' K) → VOp P n nb o s lg (fun lg' s' => VOps P n nb full r s' lg' K') := by
      intro s lg h
      unfold VOp at h ⊢
      split at h
      · obtain ⟨x, u, all, T, h1, h2, h3, h4⟩ := h
        exact ⟨x, u, all, T, h1, h2, h3, VOps_mono r h4 hk⟩
      · obtain ⟨h1, h2, h3, h4⟩ := h
        exact ⟨h1, h2, h3, VOps_mono r h4 hk⟩
    simp only [VOps] at h ⊢
    cases hg : o.guard with
    | none => simp only [hg] at h; exact one h
    | some jw =>
      obtain ⟨j, want⟩ := jw
      simp only [hg] at h ⊢
      cases hs : gslot full j with
      | none => simp only [hs] at h
      | some t =>
        simp only [hs] at h ⊢
        unfold VG at h ⊢
        split at h
        · exact ⟨fun e => one (h.1 e), fun e => ⟨(h.2 e).1, VOps_mono r (h.2 e).2 hk⟩⟩
        · exact ⟨h.1, VOps_mono r h.2 hk⟩
        · exact h
/-- The walk, with an end that does not hang on the world. -/
def Walk (P : Program) (n nb : Nat) (todo : List Item) (R : St → Prop) (s : St) : Prop := ∃ s', R s' ∧ Walk0 P n nb todo (fun t => t = s') s

theorem Walk.lift {todo todo' : List Item} {s t : St} (f : ∀ {R : St → Prop}, Walk0 P n nb todo R s → Walk0 P n nb todo' R t) (h : Walk P n nb todo R s) : Walk P n nb todo' R t := by
  obtain ⟨s', h1, h2⟩ := h
  exact ⟨s', h1, f h2⟩
theorem Walk.skip (h : Walk P n nb k R s) : Walk P n nb (.code .skip :: k) R s := h.lift .skip
theorem Walk.label {l : Nat} (h : Walk P n nb k R s) : Walk P n nb (.code (.label l) :: k) R s := h.lift .label
theorem Walk.inBlock {id : Nat} (h : Walk P n nb k R s) : Walk P n nb (.inBlock id :: k) R s := h.lift .inBlock
theorem Walk.inScope {c : Code} (h : Walk P n nb k R s) : Walk P n nb (.inScope c :: k) R s := h.lift .inScope
theorem Walk.seq {x y : Code} (h : Walk P n nb (.code x :: .code y :: k) R s) : Walk P n nb (.code (.seq x y) :: k) R s := h.lift .seq
theorem Walk.block {id : Nat} {c : Code} (h : Walk P n nb (.code c :: .inBlock id :: k) R s) : Walk P n nb (.code (.block id c) :: k) R s := h.lift .block
theorem Walk.scope {c : Code} (h : Walk P n nb (.code c :: .inScope c :: k) R s) : Walk P n nb (.code (.scope c) :: k) R s := h.lift .scope
theorem Walk.loop {c : Code} (h : Walk P n nb (.inLoop c :: k) R s) : Walk P n nb (.code (.loop c) :: k) R s := h.lift .loop
theorem Walk.inLoop {c : Code} (h : Walk P n nb (.code c :: .inLoop c :: k) R s) : Walk P n nb (.inLoop c :: k) R s := h.lift .inLoop
theorem Walk.exit {id : Nat} {k' : List Item} (hk : exitTo id k = some k') (h : Walk P n nb k' R s) : Walk P n nb (.code (.exit id) :: k) R s := h.lift (.exit hk)
theorem Walk.ret (h : R s) : Walk P n nb (.code .ret :: k) R s := ⟨s, h, .ret rfl⟩
theorem Walk.done (h : R s) : Walk P n nb [] R s := ⟨s, h, .done rfl⟩
theorem Walk.cond {c : Operand} {x y : Code} {t : Bool} (hc : evalA (eget s.e) c = .d (.bool t)) (ht : t = true → Walk P n nb (.code x :: k) R s) (hf : t = false → Walk P n nb (.code y :: k) R s) :
    Walk P n nb (.code (.cond c x y) :: k) R s := by
  cases t with
  | true => exact (ht rfl).lift fun h => .cond hc (fun _ => h) (fun h => by cases h)
  | false => exact (hf rfl).lift fun h => .cond hc (fun h => by cases h) (fun _ => h)

/-- A region's end does not hang on the world. -/
theorem VOps_pick {full : List Oper} : ∀ (l : List Oper) {s : St} {lg : Log} {K : Log → St → Prop}, VOps P n nb full l s lg K → ∃ lg' s', K lg' s' ∧ VOps P n nb full l s lg (fun a b => a = lg' ∧ b = s')
  | [], s, lg, K, h => ⟨lg, s, h, rfl, rfl⟩
  | o :: r, s, lg, K, h => by
    have one : ∀ {s : St} {lg : Log}, VOp P n nb o s lg (fun lg' s' => VOps P n nb full r s' lg' K) → ∃ lg' s', K lg' s' ∧ VOp P n nb o s lg (fun a b => VOps P n nb full r b a (fun a b => a = lg' ∧ b = s')) := by
      intro s lg h
      unfold VOp at h ⊢
      split at h
      · obtain ⟨x, u, all, T, h1, h2, h3, h4⟩ := h
        obtain ⟨lg', s', h5, h6⟩ := VOps_pick r h4
        exact ⟨lg', s', h5, x, u, all, T, h1, h2, h3, h6⟩
      · obtain ⟨h1, h2, h3, h4⟩ := h
        obtain ⟨lg', s', h5, h6⟩ := VOps_pick r h4
        exact ⟨lg', s', h5, h1, h2, h3, h6⟩
    simp only [VOps] at h ⊢
    cases hg : o.guard with
    | none => simp only [hg] at h; exact one h
    | some jw =>
      obtain ⟨j, want⟩ := jw
      simp only [hg] at h ⊢
      cases hs : gslot full j with
      | none => simp only [hs] at h
      | some t =>
        simp only [hs] at h ⊢
        cases hx : eget s.e t with
        | d y =>
          cases y with
          | bool g =>
            simp only [hx, VG] at h ⊢
            by_cases e : g = want
            · obtain ⟨lg', s', h5, h6⟩ := one (h.1 e)
              exact ⟨lg', s', h5, fun _ => h6, fun h => absurd e h⟩
            · obtain ⟨h1, h2⟩ := h.2 e
              obtain ⟨lg', s', h5, h6⟩ := VOps_pick r h2
              exact ⟨lg', s', h5, fun h => absurd h e, fun _ => ⟨h1, h6⟩⟩
          | _ => simp only [hx, VG] at h
        | tup vs =>
          cases vs with
          | nil =>
            simp only [hx, VG] at h ⊢
            obtain ⟨h1, h2⟩ := h
            obtain ⟨lg', s', h5, h6⟩ := VOps_pick r h2
            exact ⟨lg', s', h5, h1, h6⟩
          | cons _ _ => simp only [hx, VG] at h
        | _ => simp only [hx, VG] at h

theorem Walk.region' {id : Nat} {ops : Array Oper} {full : List Oper} (hf : ops = full.toArray) (h : ∀ K : St → Prop, (∀ s', Walk P n nb k R s' → K s') → VOps P n nb full full s none fun _ s' => K s') : Walk P n nb (.code (.region id ops false) :: k) R s := by
  obtain ⟨lg', s', ⟨t, h1, h2⟩, h3⟩ := VOps_pick full (h _ fun _ h => h)
  refine ⟨t, h1, .region' hf fun K hK => ?_⟩
  have := VOps_mono full h3 (K' := fun _ b => K b) (fun a b hb => by obtain ⟨_, rfl⟩ := hb; exact hK _ h2)
  exact this
theorem Walk.drawn' {id : Nat} {ops : Array Oper} {full : List Oper} (hf : ops = full.toArray) (hm : P.follows .mixedOrders = true)
    (h : ∀ K : Log → St → Prop, (∀ lg s', ordOk full (lg.getD []).reverse = true → newOk s (lg.getD []).reverse → Walk P n nb k R s' → K lg s') → VOps P n nb full full s (some []) K) : Walk P n nb (.code (.region id ops true) :: k) R s := by
  obtain ⟨lg', s', ⟨g1, g2, t, h1, h2⟩, h3⟩ := VOps_pick full (h (fun lg s' => ordOk full (lg.getD []).reverse = true ∧ newOk s (lg.getD []).reverse ∧ Walk P n nb k R s') fun _ _ h1 h2 h3 => ⟨h1, h2, h3⟩)
  refine ⟨t, h1, .drawn' hf hm fun K hK => ?_⟩
  exact VOps_mono full h3 (fun a b hb => by obtain ⟨rfl, rfl⟩ := hb; exact hK _ _ g1 g2 h2)
theorem Walk.weaken (s' : St) (hE : subE (eget s.e) s'.e) (hH : subH (hget s.h) s'.h) (h : Walk P n nb k R s') : Walk P n nb k R s := h.lift fun h => .weaken s' hE hH h
theorem Walk.mono {R' : St → Prop} (h : Walk P n nb k R s) (hR : ∀ s, R s → R' s) : Walk P n nb k R' s := by
  obtain ⟨s', h1, h2⟩ := h
  exact ⟨s', hR _ h1, h2⟩

end

def argE (k : Nat) : List AV → EL
  | [] => []
  | x :: r => (k, x) :: argE (k + 1) r
def retAV : List AV → AV
  | [x] => x
  | xs => .tup xs

theorem argE_get : ∀ (xs : List AV) (k t : Nat), eget (argE k xs) t = if t < k then .any else (xs[t - k]?).getD .any
  | [], k, t => by simp [argE, eget]
  | x :: r, k, t => by
    simp only [argE, eget]
    by_cases e : t = k
    · subst e; simp
    · rw [if_neg e, argE_get r (k + 1) t]
      by_cases h : t < k
      · rw [if_pos (by omega), if_pos h]
      · rw [if_neg (by omega), if_neg h, show t - k = (t - (k + 1)) + 1 by omega, List.getElem?_cons_succ]

theorem RepVs.get2 {w A β H} : ∀ {xs : List AV} {vs : List Value}, RepVs w A β H xs vs → xs.length = vs.length ∧ ∀ (j : Nat) (v : Value), vs[j]? = some v → ∃ x, xs[j]? = some x ∧ RepV w A β H x v
  | [], vs, h => by
    simp only [RepVs] at h
    subst h
    exact ⟨rfl, fun j v h => by simp at h⟩
  | x :: r, vs, h => by
    simp only [RepVs] at h
    obtain ⟨v, t, rfl, h1, h2⟩ := h
    obtain ⟨g1, g2⟩ := RepVs.get2 h2
    refine ⟨by simp [g1], fun j v' hj => ?_⟩
    cases j with
    | zero => simp at hj; subst hj; exact ⟨x, by simp, h1⟩
    | succ j =>
      obtain ⟨y, hy, hr⟩ := g2 j v' (by simpa using hj)
      exact ⟨y, by simpa using hy, hr⟩

theorem RepVs.ofTmps {n A β E H a w} (h : CfgF n A β E H a w) : ∀ ts : List Nat, RepVs w A β H (ts.map E) (ts.map fun t => a.tmps.getD t undef)
  | [] => by simp only [List.map_nil, RepVs]
  | t :: r => by
    simp only [List.map_cons, RepVs]
    exact ⟨_, _, rfl, h.env t, RepVs.ofTmps h r⟩

def retV : List Value → Value
  | [v] => v
  | vs => .tuple vs.toArray
/-- The results are these slots. -/
def ResOk (P : Program) (fn : Func) (ts : List Nat) : Prop := ∀ tmps w, (results fn tmps).run P w = .ok (retV (ts.map fun t => tmps.getD t undef)) w
theorem ResOk.zero {P fn} (h : fn.results = #[]) : ResOk P fn [] := fun _ _ => by simp [results, h, retV]
theorem ResOk.one {P fn a} (h : fn.results = #[.tmp a]) : ResOk P fn [a] := fun _ _ => by simp [results, h, retV]
theorem ResOk.two {P fn a b} (h : fn.results = #[.tmp a, .tmp b]) : ResOk P fn [a, b] := fun _ _ => by simp [results, h, retV]
theorem ResOk.three {P fn a b c} (h : fn.results = #[.tmp a, .tmp b, .tmp c]) : ResOk P fn [a, b, c] := fun _ _ => by simp [results, h, retV]
theorem ACalls.of_walk0 {P : Program} {f : FuncId} {args : List AV} {h : HL} {r : AV} {h' : HL} {fn : Func} {c : Code} {n : Nat} (nb : Nat) (ts : List Nat) (hf : P.funcs[f]? = some fn) (hb : fn.body = some c)
    (hn : (fn.name == "runtime.NumGoroutine") = false) (hr : ResOk P fn ts) (hnt : fn.ntmps = n) (hsz : args.length ≤ n) (hnb : ∀ i, hget h i ≠ none → i < nb)
    (hs : Walk0 P n nb [.code c] (fun s' => retAV (ts.map (eget s'.e)) = r ∧ subH (hget s'.h) h') ⟨argE 0 args, h⟩) : ACalls P f args h r h' := by
  subst hnt
  refine ⟨⟨fn, hf, by simp [hb], hn⟩, fun A β w vs hv hh => ?_⟩
  obtain ⟨hlen, hget⟩ := hv.get2
  have hlen' : vs.size = args.length := by simpa using hlen.symm
  intro cs
  let b : Frame := { (default : Frame) with fn := f, kind := .normal }
  have henter : Frame.enter P f vs .normal = b.at { tmps := vs ++ Array.replicate (fn.ntmps - vs.size) undef, defers := [] } [.code c] := by
    simp [Frame.enter, Frame.at, hf, hb, b]
  have hcfg : CfgF fn.ntmps A β (eget (argE 0 args)) (AX.hget h) { tmps := vs ++ Array.replicate (fn.ntmps - vs.size) undef, defers := [] } w := by
    refine ⟨by simp; omega, rfl, fun t => ?_, hh⟩
    rw [argE_get]
    simp only [Nat.not_lt_zero, if_false, Nat.sub_zero]
    by_cases ht : t < vs.size
    · have h1 : (vs ++ Array.replicate (fn.ntmps - vs.size) undef).getD t undef = vs[t] := by
        rw [Array.getD_eq_getD_getElem?, Array.getElem?_append_left ht]; simp [ht]
      rw [h1]
      obtain ⟨x, hx, hrx⟩ := hget t vs[t] (by simp [ht])
      rw [hx]; exact hrx
    · have : args[t]? = none := by rw [List.getElem?_eq_none_iff]; omega
      rw [this]; simp only [Option.getD_none, RepV]
  obtain ⟨a', w', t', s', g1, ⟨g2, g3⟩, A', β', g4, g5⟩ := hs ⟨w, A, β, AX.hget h⟩ hnb _ w ⟨A, β, hcfg, Trans.refl _ _ _ _⟩ b cs
  obtain ⟨g6, g7⟩ := g4.weaken (E' := eget s'.e) (fun _ => .inr rfl) (subH_get g3)
  rw [henter]
  refine ⟨.returned (retV (ts.map fun t => a'.tmps.getD t undef)), w', _, ⟨_, A', β', rfl, ?_, g6.heap, g5.comp g7 fun i _ hi => ?_⟩, g1, rfl, rfl, g4.defers, rfl, fn, hf, hr _ _⟩
  · have := RepVs.ofTmps g6 ts
    rw [← g2]
    match ts, this with
    | [], this => simp only [List.map_nil, retAV, retV, RepV]; exact ⟨_, rfl, by simp [RepVs]⟩
    | [t], this => simp only [List.map_cons, List.map_nil, retAV, retV]; exact g6.env t
    | t1 :: t2 :: r, this => simp only [List.map_cons, retAV, retV, RepV]; exact ⟨_, rfl, by simpa using this⟩
  · rcases subH_get g3 i with h3 | h3
    · exact h3
    · rw [h3]; exact hi
theorem ACalls.of_sem {P : Program} {f : FuncId} {args : List AV} {h : HL} {r : AV} {h' : HL} {fn : Func} {c : Code} {n : Nat} (nb : Nat) (ts : List Nat) (hf : P.funcs[f]? = some fn) (hb : fn.body = some c)
    (hn : (fn.name == "runtime.NumGoroutine") = false) (hr : ResOk P fn ts) (hnt : fn.ntmps = n) (hsz : args.length ≤ n) (hnb : ∀ i, hget h i ≠ none → i < nb)
    (hs : Walk P n nb [.code c] (fun s' => retAV (ts.map (eget s'.e)) = r ∧ subH (hget s'.h) h') ⟨argE 0 args, h⟩) : ACalls P f args h r h' := by
  obtain ⟨s', h1, h2⟩ := hs
  exact .of_walk0 nb ts hf hb hn hr hnt hsz hnb (h2.mono fun t ht => by rw [ht]; exact h1)
end Go.AX
set_option linter.unusedVariables false
set_option linter.unusedSimpArgs false
namespace Go.AX

/-- What one operation's outcome leads to. -/
def V1 (P : Program) (n nb : Nat) (full : List Oper) (d : Option Nat) (r : List Oper) (s : St) (lg : Log) (K : Log → St → Prop) (x : Out × List Nat) : Prop :=
  x.1.pre ∧ dstOk n d ∧ freshU nb s x.1.upd ∧
    VOps P n nb full r (s.step d x.1.res x.1.upd) (addLog lg false (x.2 ++ x.1.upd.map (·.1)) (x.1.res.ids ++ updIds x.1.upd) (x.1.upd.map (·.1)) (newIds (hget s.h) x.1.upd)) K
/-- A call of a function with a body. -/
def VCl (P : Program) (n nb : Nat) (full : List Oper) (o : Oper) (r : List Oper) (s : St) (lg : Log) (K : Log → St → Prop) : Prop :=
  VOp P n nb o s lg fun lg' s' => VOps P n nb full r s' lg' K
/-- An operation that stands under a guard; 'x' is the guard's value. -/
def VGd (P : Program) (n nb : Nat) (full : List Oper) (o : Oper) (want : Bool) (r : List Oper) (s : St) (lg : Log) (K : Log → St → Prop) (x : AV) : Prop :=
  VG x want (VOps P n nb full (o :: r) s lg K) (dstOk n o.dst ∧ VOps P n nb full r (s.step o.dst (.tup []) []) (addLog lg false [] [] [] []) K)
def VGs (P : Program) (n nb : Nat) (full : List Oper) (o : Oper) (want : Bool) (r : List Oper) (s : St) (lg : Log) (K : Log → St → Prop) (g : Option Nat) : Prop :=
  match g with
  | none => False
  | some t => VGd P n nb full o want r s lg K (eget s.e t)

section
variable {P : Program} {n nb : Nat} {full r : List Oper} {s : St} {lg : Log} {K : Log → St → Prop} {d : Option Nat} {t : Nat} {p : String} {e : Array Edge}

theorem V1_none {pre : Prop} {res : AV} {upd : HL} {ids : List Nat} : V1 P n nb full d r s none K (⟨pre, res, upd⟩, ids) = (pre ∧ dstOk n d ∧ freshU nb s upd ∧ VOps P n nb full r (s.step d res upd) none K) := rfl
theorem V1_some {l : List Ent} {pre : Prop} {res : AV} {upd : HL} {ids : List Nat} : V1 P n nb full d r s (some l) K (⟨pre, res, upd⟩, ids) =
    (pre ∧ dstOk n d ∧ freshU nb s upd ∧ VOps P n nb full r (s.step d res upd) (some (⟨false, ids ++ upd.map (·.1), res.ids ++ updIds upd, upd.map (·.1), newIds (hget s.h) upd⟩ :: l)) K) := rfl
theorem V_nil : VOps P n nb full [] s lg K = K lg s := rfl

theorem V_move {x} : VOps P n nb full (⟨d, .move x, t, p, e, none⟩ :: r) s lg K = V1 P n nb full d r s lg K (ok (evalA (eget s.e) x), []) := rfl
theorem V_assign {x} : VOps P n nb full (⟨d, .assign x, t, p, e, none⟩ :: r) s lg K = V1 P n nb full d r s lg K (ok (evalA (eget s.e) x), []) := rfl
theorem V_pick {c a b} : VOps P n nb full (⟨d, .pick c a b, t, p, e, none⟩ :: r) s lg K = V1 P n nb full d r s lg K (po (aPick (evalA (eget s.e) c) (evalA (eget s.e) a) (evalA (eget s.e) b)), []) := rfl
theorem V_bin {op u x y z} : VOps P n nb full (⟨d, .binOp op u x y z, t, p, e, none⟩ :: r) s lg K = V1 P n nb full d r s lg K (po (if isNilC y = true then aNilEq P op u (evalA (eget s.e) x) else aBin P op u (evalA (eget s.e) x) (evalA (eget s.e) y)), []) := rfl
theorem V_un {op u x} : VOps P n nb full (⟨d, .unOp op u x, t, p, e, none⟩ :: r) s lg K = V1 P n nb full d r s lg K (po (aUn op (evalA (eget s.e) x)), []) := rfl
theorem V_extract {x i} : VOps P n nb full (⟨d, .extract x i, t, p, e, none⟩ :: r) s lg K = V1 P n nb full d r s lg K (po (aExtract (evalA (eget s.e) x) i), []) := rfl
theorem V_makeFunc {f a c} : VOps P n nb full (⟨d, .makeFunc f a c, t, p, e, none⟩ :: r) s lg K = V1 P n nb full d r s lg K (po (aMakeFunc f (a.toList.map (evalA (eget s.e))) (c.toList.map (evalA (eget s.e)))), []) := rfl
theorem V_convert {a b x} : VOps P n nb full (⟨d, .convert a b x, t, p, e, none⟩ :: r) s lg K = V1 P n nb full d r s lg K (po (aConv P a b (evalA (eget s.e) x) (hget s.h)), (evalA (eget s.e) x).ids) := rfl
theorem V_nilCheck {x} : VOps P n nb full (⟨d, .nilCheck x, t, p, e, none⟩ :: r) s lg K = V1 P n nb full d r s lg K (po (aNilCheck (evalA (eget s.e) x) (hget s.h)), (evalA (eget s.e) x).ids) := rfl
theorem V_fieldAddr {u x f} : VOps P n nb full (⟨d, .fieldAddr u x f, t, p, e, none⟩ :: r) s lg K = V1 P n nb full d r s lg K (po (aFieldAddr P u (evalA (eget s.e) x) f (hget s.h)), (evalA (eget s.e) x).ids) := rfl
theorem V_field {u x f} : VOps P n nb full (⟨d, .field u x f, t, p, e, none⟩ :: r) s lg K = V1 P n nb full d r s lg K (po (aField P u (evalA (eget s.e) x) f), []) := rfl
theorem V_load {u x} : VOps P n nb full (⟨d, .load u x, t, p, e, none⟩ :: r) s lg K = V1 P n nb full d r s lg K (po (aLoad P u (evalA (eget s.e) x) (hget s.h)), (evalA (eget s.e) x).ids) := rfl
theorem V_store {u x y} : VOps P n nb full (⟨d, .store u x y, t, p, e, none⟩ :: r) s lg K = V1 P n nb full d r s lg K (so (aStore P u (evalA (eget s.e) x) (evalA (eget s.e) y) (hget s.h)), (evalA (eget s.e) x).ids ++ (evalA (eget s.e) y).ids) := rfl
theorem V_indexAddr {u x i} : VOps P n nb full (⟨d, .indexAddr u x i, t, p, e, none⟩ :: r) s lg K = V1 P n nb full d r s lg K (po (aIndexAddr P u (evalA (eget s.e) x) (evalA (eget s.e) i) (hget s.h)), (evalA (eget s.e) x).ids) := rfl
theorem V_index {u x i} : VOps P n nb full (⟨d, .index u x i, t, p, e, none⟩ :: r) s lg K = V1 P n nb full d r s lg K (po (aIndex P u (evalA (eget s.e) x) (evalA (eget s.e) i)), []) := rfl
theorem V_slice {u x lo hi} : VOps P n nb full (⟨d, .slice u x lo hi none, t, p, e, none⟩ :: r) s lg K = V1 P n nb full d r s lg K (po (aSlice P u (evalA (eget s.e) x) (lo.map (evalA (eget s.e))) (hi.map (evalA (eget s.e))) (hget s.h)), (evalA (eget s.e) x).ids) := rfl
theorem V_slice0 {u x hi mx} : VOps P n nb full (⟨d, .slice u x none (some hi) (some mx), t, p, e, none⟩ :: r) s lg K = V1 P n nb full d r s lg K (po (aSlice0 P u (evalA (eget s.e) x) (evalA (eget s.e) hi) (evalA (eget s.e) mx) (hget s.h)), (evalA (eget s.e) x).ids) := rfl
theorem V_alloc {u} : VOps P n nb full (⟨d, .alloc u, t, p, e, none⟩ :: r) s lg K = V1 P n nb full d r s lg K (aNew (hget s.h) (nb + d.getD 0) (aAlloc P (nb + d.getD 0) u), [nb + d.getD 0]) := rfl
theorem V_box {u x} : VOps P n nb full (⟨d, .box u x, t, p, e, none⟩ :: r) s lg K = V1 P n nb full d r s lg K (aNew (hget s.h) (nb + d.getD 0) (aBox (nb + d.getD 0) (evalA (eget s.e) x) (hget s.h)), (nb + d.getD 0) :: (evalA (eget s.e) x).ids) := rfl
theorem V_build {u ps} : VOps P n nb full (⟨d, .build u ps, t, p, e, none⟩ :: r) s lg K = V1 P n nb full d r s lg K (po (aBuild P u (ps.toList.map fun p => (p.1, evalA (eget s.e) p.2)) (hget s.h)), AV.idsL (ps.toList.map fun p => evalA (eget s.e) p.2)) := rfl
theorem V_buildSlice {u len ps} : VOps P n nb full (⟨d, .buildSlice u len ps, t, p, e, none⟩ :: r) s lg K = V1 P n nb full d r s lg K (aNew (hget s.h) (nb + d.getD 0) (aBuildSlice P (nb + d.getD 0) u len (ps.toList.map fun p => (p.1, evalA (eget s.e) p.2)) (hget s.h)), (nb + d.getD 0) :: AV.idsL (ps.toList.map fun p => evalA (eget s.e) p.2)) := rfl
theorem V_makeSlice {u l c} : VOps P n nb full (⟨d, .makeSlice u l c, t, p, e, none⟩ :: r) s lg K = V1 P n nb full d r s lg K (aNew (hget s.h) (nb + d.getD 0) (if 100000 ≤ nb then aMakeBox P (nb + d.getD 0) u (evalA (eget s.e) l) (evalA (eget s.e) c) else aMake P (nb + d.getD 0) u (evalA (eget s.e) l) (evalA (eget s.e) c)), [nb + d.getD 0]) := rfl
theorem V_len {x u} : VOps P n nb full (⟨d, .call { callee := .builtin .len, args := #[x], argTypes := #[u] }, t, p, e, none⟩ :: r) s lg K = V1 P n nb full d r s lg K (po (aLen P u (evalA (eget s.e) x) (hget s.h)), (evalA (eget s.e) x).ids) := rfl
theorem V_min {x y u} : VOps P n nb full (⟨d, .call { callee := .builtin .min, args := #[x, y], argTypes := u }, t, p, e, none⟩ :: r) s lg K = V1 P n nb full d r s lg K (po (aMin (evalA (eget s.e) x) (evalA (eget s.e) y)), []) := rfl
theorem V_max {x y u} : VOps P n nb full (⟨d, .call { callee := .builtin .max, args := #[x, y], argTypes := u }, t, p, e, none⟩ :: r) s lg K = V1 P n nb full d r s lg K (po (aMax (evalA (eget s.e) x) (evalA (eget s.e) y)), []) := rfl
theorem V_append {x y u v} : VOps P n nb full (⟨d, .call { callee := .builtin .append, args := #[x, y], argTypes := #[u, v] }, t, p, e, none⟩ :: r) s lg K = V1 P n nb full d r s lg K ((if u = v then aAppend P (nb + d.getD 0) u (evalA (eget s.e) x) (evalA (eget s.e) y) (hget s.h) else fail), (nb + d.getD 0) :: ((evalA (eget s.e) x).ids ++ (evalA (eget s.e) y).ids)) := rfl
theorem V_copy {x y u v} : VOps P n nb full (⟨d, .call { callee := .builtin .copy, args := #[x, y], argTypes := #[u, v] }, t, p, e, none⟩ :: r) s lg K = V1 P n nb full d r s lg K (aCopy P u (evalA (eget s.e) x) (evalA (eget s.e) y) (hget s.h), (evalA (eget s.e) x).ids ++ (evalA (eget s.e) y).ids) := rfl
theorem V_call {fo args ts} : VOps P n nb full (⟨d, .call { callee := .value fo, args := args, argTypes := ts }, t, p, e, none⟩ :: r) s lg K = VCl P n nb full ⟨d, .call { callee := .value fo, args := args, argTypes := ts }, t, p, e, none⟩ r s lg K := rfl

theorem VOp_guard {op} {g : Option (Nat × Bool)} {K} : VOp P n nb ⟨d, op, t, p, e, g⟩ s lg K = VOp P n nb ⟨d, op, t, p, e, none⟩ s lg K := rfl
theorem V_guard {op} {j w} : VOps P n nb full (⟨d, op, t, p, e, some (j, w)⟩ :: r) s lg K =
    VGs P n nb full ⟨d, op, t, p, e, none⟩ w r s lg K (gslot full j) := by
  cases hg : gslot full j <;> simp only [VGs, VOps, hg, VGd]
  rw [VOp_guard]
theorem VGs_some {o w} {g : Nat} : VGs P n nb full o w r s lg K (some g) = VGd P n nb full o w r s lg K (eget s.e g) := rfl
theorem VG_tt {o} : VGd P n nb full o true r s lg K (.d (.bool true)) = VOps P n nb full (o :: r) s lg K := by simp [VGd, VG]
theorem VG_ff {o} : VGd P n nb full o false r s lg K (.d (.bool false)) = VOps P n nb full (o :: r) s lg K := by simp [VGd, VG]
theorem VG_tf {op} : VGd P n nb full ⟨d, op, t, p, e, none⟩ false r s lg K (.d (.bool true)) = (dstOk n d ∧ VOps P n nb full r (s.step d (.tup []) []) (addLog lg false [] [] [] []) K) := by simp [VGd, VG]
theorem VG_ft {op} : VGd P n nb full ⟨d, op, t, p, e, none⟩ true r s lg K (.d (.bool false)) = (dstOk n d ∧ VOps P n nb full r (s.step d (.tup []) []) (addLog lg false [] [] [] []) K) := by simp [VGd, VG]
theorem VG_u {op w} : VGd P n nb full ⟨d, op, t, p, e, none⟩ w r s lg K (.tup []) = (dstOk n d ∧ VOps P n nb full r (s.step d (.tup []) []) (addLog lg false [] [] [] []) K) := by simp [VGd, VG]
theorem cond_bool {c a b : Bool} : (bif c then AV.d (.bool a) else AV.d (.bool b)) = AV.d (.bool (bif c then a else b)) := by cases c <;> rfl
theorem cond_int {c : Bool} {k a b} : (bif c then AV.d (.int k a) else AV.d (.int k b)) = AV.d (.int k (bif c then a else b)) := by cases c <;> rfl
theorem zv_i64 {x : Int} (h : -9223372036854775808 ≤ x ∧ x ≤ 9223372036854775807) : zv (.int .i64 x) = .d (.int .i64 x) := by
  show (if IntKind.i64.min ≤ x ∧ x ≤ IntKind.i64.max then AV.d (.int .i64 x) else .any) = _
  rw [i64_min, i64_max, if_pos h]
theorem zv_u8 {x : Int} (h : 0 ≤ x ∧ x ≤ 255) : zv (.int .u8 x) = .d (.int .u8 x) := by
  show (if IntKind.u8.min ≤ x ∧ x ≤ IntKind.u8.max then AV.d (.int .u8 x) else .any) = _
  rw [if_pos (by simpa [show IntKind.u8.min = 0 from by decide, show IntKind.u8.max = 255 from by decide] using h)]
theorem zv_bool {b} : zv (.bool b) = .d (.bool b) := rfl
theorem zv_nils : zv (.slice none 0 0) = .nils := rfl
theorem zv_nilp : zv (.pointer none) = .nilp := rfl
theorem addLog_none' {all t m w n} : addLog none all t m w n = none := rfl
theorem addLog_some' {l all t m w n} : addLog (some l) all t m w n = some (⟨all, t, m, w, n⟩ :: l) := rfl
end
end Go.AX
set_option linter.unusedVariables false
set_option linter.unusedSimpArgs false
namespace Go.AX

section
variable {H H' : HF}
mutual
theorem view_congr : ∀ (x : AV), (∀ i ∈ x.ids, H' i = H i) → x.view H' = x.view H ∧ x.viewP H' = x.viewP H
  | .arr id off len, h => by
    simp only [AV.view, AV.viewP]
    exact ⟨by rw [avD_congr h], avDp_congr h⟩
  | .agg cs, h => by
    simp only [AV.view, AV.viewP]
    obtain ⟨h1, h2⟩ := views_congr cs (by simpa only [AV.ids] using h)
    exact ⟨by rw [h1], h2⟩
  | .tup cs, h => by
    simp only [AV.view, AV.viewP]
    obtain ⟨h1, h2⟩ := views_congr cs (by simpa only [AV.ids] using h)
    exact ⟨by rw [h1], h2⟩
  | .fn f cs, h => by
    simp only [AV.view, AV.viewP]
    obtain ⟨h1, h2⟩ := views_congr cs (by simpa only [AV.ids] using h)
    exact ⟨by rw [h1], h2⟩
  | .any, _ => by simp only [AV.view, AV.viewP, and_self]
  | .d _, _ => by simp only [AV.view, AV.viewP, and_self]
  | .nils, _ => by simp only [AV.view, AV.viewP, and_self]
  | .nilp, _ => by simp only [AV.view, AV.viewP, and_self]
  | .nl _, _ => by simp only [AV.view, AV.viewP, and_self]
  | .ref _, _ => by simp only [AV.view, AV.viewP, and_self]
  | .box _ _, _ => by simp only [AV.view, AV.viewP, and_self]
  | .elt _ _ _ _, _ => by simp only [AV.view, AV.viewP, and_self]
theorem views_congr : ∀ (xs : List AV), (∀ i ∈ AV.idsL xs, H' i = H i) → AV.views H' xs = AV.views H xs ∧ AV.viewPs H' xs = AV.viewPs H xs
  | [], _ => ⟨rfl, rfl⟩
  | x :: r, h => by
    obtain ⟨h1, h2⟩ := view_congr x fun i hi => h i (by simp [AV.idsL, hi])
    obtain ⟨h3, h4⟩ := views_congr r fun i hi => h i (by simp [AV.idsL, hi])
    simp only [AV.views, AV.viewPs, h1, h2, h3, h4, and_self]
end
mutual
theorem viewX_congr (T : List Nat) : ∀ (x : AV), (∀ i ∈ x.ids, H' i = H i) → x.viewX T H' = x.viewX T H ∧ x.viewXP T H' = x.viewXP T H
  | .arr id off len, h => by
    simp only [AV.viewX, AV.viewXP]
    exact ⟨by rw [avD_congr h], by rw [avDp_congr h]⟩
  | .agg cs, h => by
    simp only [AV.viewX, AV.viewXP]
    obtain ⟨h1, h2⟩ := viewXs_congr T cs (by simpa only [AV.ids] using h)
    exact ⟨by rw [h1], h2⟩
  | .tup cs, h => by
    simp only [AV.viewX, AV.viewXP]
    obtain ⟨h1, h2⟩ := viewXs_congr T cs (by simpa only [AV.ids] using h)
    exact ⟨by rw [h1], h2⟩
  | .fn f cs, h => by
    simp only [AV.viewX, AV.viewXP]
    obtain ⟨h1, h2⟩ := viewXs_congr T cs (by simpa only [AV.ids] using h)
    exact ⟨by rw [h1], h2⟩
  | .any, _ => by simp only [AV.viewX, AV.viewXP, and_self]
  | .d _, _ => by simp only [AV.viewX, AV.viewXP, and_self]
  | .nils, _ => by simp only [AV.viewX, AV.viewXP, and_self]
  | .nilp, _ => by simp only [AV.viewX, AV.viewXP, and_self]
  | .nl _, _ => by simp only [AV.viewX, AV.viewXP, and_self]
  | .ref _, _ => by simp only [AV.viewX, AV.viewXP, and_self]
  | .box _ _, _ => by simp only [AV.viewX, AV.viewXP, and_self]
  | .elt _ _ _ _, _ => by simp only [AV.viewX, AV.viewXP, and_self]
theorem viewXs_congr (T : List Nat) : ∀ (xs : List AV), (∀ i ∈ AV.idsL xs, H' i = H i) → AV.viewXs T H' xs = AV.viewXs T H xs ∧ AV.viewXPs T H' xs = AV.viewXPs T H xs
  | [], _ => ⟨rfl, rfl⟩
  | x :: r, h => by
    obtain ⟨h1, h2⟩ := viewX_congr T x fun i hi => h i (by simp [AV.idsL, hi])
    obtain ⟨h3, h4⟩ := viewXs_congr T r fun i hi => h i (by simp [AV.idsL, hi])
    simp only [AV.viewXs, AV.viewXPs, h1, h2, h3, h4, and_self]
end
end

/-- Names not in use. -/
def newNames (nb : Nat) (s : St) : List Nat → Prop
  | [] => True
  | i :: r => (nb ≤ i ∧ hget s.h i = none ∧ freshE i s.e ∧ freshH i s.h) ∧ newNames nb s r
theorem newNames_get {nb s} : ∀ {l : List Nat}, newNames nb s l → ∀ i ∈ l, nb ≤ i ∧ hget s.h i = none ∧ freshE i s.e ∧ freshH i s.h
  | [], _, i, h => by simp at h
  | j :: r, hn, i, h => by
    rcases List.mem_cons.1 h with rfl | h
    · exact hn.1
    · exact newNames_get hn.2 i h
theorem arrsOnly_mem : ∀ {u : HL}, arrsOnly u → ∀ i ∈ u.map (·.1), ∃ x, (i, some x) ∈ u
  | [], _, i, h => by simp at h
  | (j, some (.arr T sz es)) :: r, hu, i, h => by
    rcases List.mem_cons.1 h with rfl | h
    · exact ⟨_, by simp; exact .inl rfl⟩
    · obtain ⟨x, hx⟩ := arrsOnly_mem (u := r) hu i h
      exact ⟨x, List.mem_cons_of_mem _ hx⟩
  | (j, none) :: r, hu, _, _ => by simp only [arrsOnly] at hu
  | (j, some (.box _)) :: r, hu, _, _ => by simp only [arrsOnly] at hu
theorem freshU_of {nb s} : ∀ {u : HL}, (∀ i x, (i, some x) ∈ u → hget s.h i ≠ none ∨ (nb ≤ i ∧ freshE i s.e ∧ freshH i s.h)) → freshU nb s u
  | [], _ => trivial
  | (i, some x) :: r, h => ⟨h i x (by simp), freshU_of fun j y hy => h j y (List.mem_cons_of_mem _ hy)⟩
  | (i, none) :: r, h => by simp only [freshU]; exact freshU_of fun j y hy => h j y (List.mem_cons_of_mem _ hy)

theorem call_eval {fo : Operand} {args : Array Operand} {ts : Array Nat} {E E' : EF} (he : ∀ x ∈ (Op.call { callee := .value fo, args := args, argTypes := ts }).operands, evalA E' x = evalA E x) :
    evalA E' fo = evalA E fo ∧ args.toList.map (evalA E') = args.toList.map (evalA E) := by
  have h1 : ∀ x, x = fo ∨ x ∈ args → evalA E' x = evalA E x := fun x hx => he x (by simp only [Op.operands, Call.operands]; simpa using hx)
  exact ⟨h1 fo (.inl rfl), List.map_congr_left fun x hx => h1 x (.inr (by simpa using hx))⟩

section
variable {P : Program} {n nb : Nat} {full r : List Oper} {s : St} {lg : Log} {K : Log → St → Prop} {d : Option Nat} {t : Nat} {p : String} {e : Array Edge}
  {fo : Operand} {args : Array Operand} {ts : Array Nat}

/-- A callee that gets no object, nothing is lent to it; it may make arrays. -/
theorem VCl.pure {f : FuncId} {caps args' : List AV} {res : AV} {u : HL} (hf : evalA (eget s.e) fo = .fn f caps) (hv : AV.views (hget s.h) (args.toList.map (evalA (eget s.e)) ++ caps) = args')
    (hc : ACalls P f args' [] res u) (hp : AV.viewPs (hget s.h) (args.toList.map (evalA (eget s.e)) ++ caps)) (hi : AV.idsL (args.toList.map (evalA (eget s.e)) ++ caps) = [])
    (hd : dstOk n d) (hu : arrsOnly u) (hr : ∀ i ∈ res.ids, i ∈ u.map (·.1)) (hnew : newNames nb s (u.map (·.1)))
    (hK : VOps P n nb full r (s.step d res u) (addLog lg false (u.map (·.1) ++ u.map (·.1)) (res.ids ++ updIds u) (u.map (·.1)) (newIds (hget s.h) u)) K) :
    VCl P n nb full ⟨d, .call { callee := .value fo, args := args, argTypes := ts }, t, p, e, none⟩ r s lg K := by
  refine ⟨res, u, false, u.map (·.1), fun E' H' he _ hT hfr => ?_, hd, freshU_of fun i x hx => .inr ?_, hK⟩
  · obtain ⟨e1, e2⟩ := call_eval he
    have hid : ∀ i ∈ AV.idsL (args.toList.map (evalA (eget s.e)) ++ caps), H' i = hget s.h i := by rw [hi]; simp
    obtain ⟨v1, v2⟩ := views_congr _ hid
    refine sem_callPure (by cases d <;> simp_all [dstOk]) (by rw [e1, hf]) hc (by rw [e2, v1, hv]) (by rw [e2, v2]; exact hp) (by rw [e2, hi]) hu hr fun i hm => ?_
    obtain ⟨x, hx⟩ := arrsOnly_mem hu i hm
    exact hfr i x hx (by rw [hT i hm]; exact (newNames_get hnew i hm).2.1)
  · have := newNames_get hnew i (List.mem_map.2 ⟨(i, some x), hx, rfl⟩)
    exact ⟨this.1, this.2.2⟩

/-- A callee that gets no object, arrays are lent to it as data; it may make arrays of flat elements. -/
theorem VCl.lent {f : FuncId} {caps args' : List AV} {res : AV} {u : HL} (hf : evalA (eget s.e) fo = .fn f caps) (hv : AV.views (hget s.h) (args.toList.map (evalA (eget s.e)) ++ caps) = args')
    (hc : ACalls P f args' [] res u) (hp : AV.viewPs (hget s.h) (args.toList.map (evalA (eget s.e)) ++ caps))
    (hd : dstOk n d) (hfl : res.flat = true) (hu : arrsOnly u) (hfu : flatObjs u) (hr : ∀ i ∈ res.ids, i ∈ u.map (·.1)) (hnew : newNames nb s (u.map (·.1)))
    (hK : VOps P n nb full r (s.step d res u) (addLog lg false ((AV.idsL (args.toList.map (evalA (eget s.e)) ++ caps) ++ u.map (·.1)) ++ u.map (·.1)) (res.ids ++ updIds u) (u.map (·.1)) (newIds (hget s.h) u)) K) :
    VCl P n nb full ⟨d, .call { callee := .value fo, args := args, argTypes := ts }, t, p, e, none⟩ r s lg K := by
  refine ⟨res, u, false, AV.idsL (args.toList.map (evalA (eget s.e)) ++ caps) ++ u.map (·.1), fun E' H' he _ hT hfr => ?_, hd, freshU_of fun i x hx => .inr ?_, hK⟩
  · obtain ⟨e1, e2⟩ := call_eval he
    obtain ⟨v1, v2⟩ := views_congr (args.toList.map (evalA (eget s.e)) ++ caps) fun i hi => hT i (List.mem_append.2 (.inl hi))
    refine sem_callLent (by cases d <;> simp_all [dstOk]) (by rw [e1, hf]) hc (by rw [e2, v1, hv]) (by rw [e2, v2]; exact hp) hfl hu hfu hr fun i hm => ?_
    obtain ⟨x, hx⟩ := arrsOnly_mem hu i hm
    exact hfr i x hx (by rw [hT i (List.mem_append.2 (.inr hm))]; exact (newNames_get hnew i hm).2.1)
  · have := newNames_get hnew i (List.mem_map.2 ⟨(i, some x), hx, rfl⟩)
    exact ⟨this.1, this.2.2⟩
end

def allSome : HL → Prop
  | [] => True
  | (_, some _) :: r => allSome r
  | (_, none) :: _ => False
theorem allSome_mem : ∀ {u : HL}, allSome u → ∀ i ∈ u.map (·.1), ∃ x, (i, some x) ∈ u
  | [], _, i, h => by simp at h
  | (j, some o) :: r, hu, i, h => by
    rcases List.mem_cons.1 h with rfl | h
    · exact ⟨_, by simp; exact .inl rfl⟩
    · obtain ⟨x, hx⟩ := allSome_mem (u := r) hu i h
      exact ⟨x, List.mem_cons_of_mem _ hx⟩
  | (j, none) :: r, hu, _, _ => by simp only [allSome] at hu
theorem subOf_congr {H H' : HF} : ∀ {h : HL}, subOf H h → (∀ i ∈ h.map (·.1), H' i = H i) → subOf H' h
  | [], _, _ => trivial
  | (i, some o) :: r, hs, hh => ⟨by rw [hh i (by simp)]; exact hs.1, subOf_congr hs.2 fun j hj => hh j (by simp at hj ⊢; exact .inr hj)⟩
  | (_, none) :: _, hs, _ => by simp only [subOf] at hs
/-- Each name is one of the callee's, or new. -/
def newOrOld (nb : Nat) (s : St) (old : List Nat) : List Nat → Prop
  | [] => True
  | i :: r => (i ∈ old ∨ (nb ≤ i ∧ hget s.h i = none ∧ freshE i s.e ∧ freshH i s.h)) ∧ newOrOld nb s old r
theorem newOrOld_get {nb s old} : ∀ {l : List Nat}, newOrOld nb s old l → ∀ i ∈ l, i ∈ old ∨ (nb ≤ i ∧ hget s.h i = none ∧ freshE i s.e ∧ freshH i s.h)
  | [], _, i, h => by simp at h
  | j :: r, hn, i, h => by
    rcases List.mem_cons.1 h with rfl | h
    · exact hn.1
    · exact newOrOld_get hn.2 i h

section
variable {P : Program} {n nb : Nat} {full r : List Oper} {s : St} {lg : Log} {K : Log → St → Prop} {d : Option Nat} {t : Nat} {p : String} {e : Array Edge}
  {fo : Operand} {args : Array Operand} {ts : Array Nat}
/-- A callee that gets the objects 'hc'; other arrays are frozen ('fz'). -/
theorem VCl.subN {f : FuncId} {caps args' : List AV} {res : AV} (hc : HL) {h' : HL} (fz : List Nat) (hf : evalA (eget s.e) fo = .fn f caps) (hv : nlR (args.toList.map (evalA (eget s.e)) ++ caps) (AV.viewXs (hc.map (·.1)) (hget s.h) (args.toList.map (evalA (eget s.e)) ++ caps)) args')
    (hcall : ACalls P f args' hc res h') (hsub : subOf (hget s.h) hc) (hp : AV.viewXPs (hc.map (·.1)) (hget s.h) (args.toList.map (evalA (eget s.e)) ++ caps))
    (hfz : ∀ i ∈ AV.idsL (args.toList.map (evalA (eget s.e)) ++ caps), i ∉ hc.map (·.1) → i ∈ fz) (hfz' : ∀ i ∈ fz, i ∉ hc.map (·.1) ∧ i ∉ h'.map (·.1))
    (hcl0 : closedIn (hc.map (·.1)) hc) (hcl : closedIn (h'.map (·.1)) h') (hr : ∀ i ∈ res.ids, i ∈ h'.map (·.1)) (hall : allSome h') (hd : dstOk n d)
    (hnew : newOrOld nb s (hc.map (·.1)) (h'.map (·.1)))
    (hK : VOps P n nb full r (s.step d res (h' ++ (hc.map fun x => (x.1, none)) ++ fz.map fun i => (i, none)))
      (addLog lg false ((AV.idsL (args.toList.map (evalA (eget s.e)) ++ caps) ++ (hc.map (·.1) ++ h'.map (·.1))) ++ ((h' ++ (hc.map fun x => (x.1, none)) ++ fz.map fun i => (i, none) : HL)).map (·.1)) (res.ids ++ updIds (h' ++ (hc.map fun x => (x.1, none)) ++ fz.map fun i => (i, none)))
        (((h' ++ (hc.map fun x => (x.1, none)) ++ fz.map fun i => (i, none) : HL)).map (·.1)) (newIds (hget s.h) (h' ++ (hc.map fun x => (x.1, none)) ++ fz.map fun i => (i, none)))) K) :
    VCl P n nb full ⟨d, .call { callee := .value fo, args := args, argTypes := ts }, t, p, e, none⟩ r s lg K := by
  have hsome : ∀ i x, (i, some x) ∈ (h' ++ (hc.map fun (x : Nat × Option AObj) => (x.1, none)) ++ fz.map fun i => (i, none) : HL) → i ∈ h'.map (·.1) := by
    intro i x hx
    simp only [List.mem_append, List.mem_map] at hx
    rcases hx with (hx | ⟨_, _, hx⟩) | ⟨_, _, hx⟩
    · exact List.mem_map.2 ⟨_, hx, rfl⟩
    · simp at hx
    · simp at hx
  refine ⟨res, _, false, AV.idsL (args.toList.map (evalA (eget s.e)) ++ caps) ++ (hc.map (·.1) ++ h'.map (·.1)), fun E' H' he _ hT hfr => ?_, hd, freshU_of fun i x hx => ?_, hK⟩
  · obtain ⟨e1, e2⟩ := call_eval he
    obtain ⟨v1, v2⟩ := viewXs_congr (hc.map (·.1)) (args.toList.map (evalA (eget s.e)) ++ caps) fun i hi => hT i (List.mem_append.2 (.inl hi))
    refine sem_callSub (by cases d <;> simp_all [dstOk]) (by rw [e1, hf]) hcall (subOf_congr hsub fun i hi => hT i (List.mem_append.2 (.inr (List.mem_append.2 (.inl hi))))) (by rw [e2, v1]; exact hv) (by rw [e2, v2]; exact hp) (by rw [e2]; exact hfz) hfz' hcl0 hcl hr fun i hm hn => ?_
    obtain ⟨x, hx⟩ := allSome_mem hall i hm
    refine hfr i x (List.mem_append.2 (.inl (List.mem_append.2 (.inl hx)))) ?_
    rw [hT i (List.mem_append.2 (.inr (List.mem_append.2 (.inr hm))))]
    rcases newOrOld_get hnew i hm with h1 | h1
    · exact absurd h1 hn
    · exact h1.2.1
  · rcases newOrOld_get hnew i (hsome i x hx) with h1 | h1
    · exact .inl ((subOf_get hsub).2 i h1)
    · exact .inr ⟨h1.1, h1.2.2⟩
/-- A callee that gets the objects 'hc'; other arrays are frozen ('fz'). -/
theorem VCl.sub {f : FuncId} {caps args' : List AV} {res : AV} (hc : HL) {h' : HL} (fz : List Nat) (hf : evalA (eget s.e) fo = .fn f caps) (hv : AV.viewXs (hc.map (·.1)) (hget s.h) (args.toList.map (evalA (eget s.e)) ++ caps) = args')
    (hcall : ACalls P f args' hc res h') (hsub : subOf (hget s.h) hc) (hp : AV.viewXPs (hc.map (·.1)) (hget s.h) (args.toList.map (evalA (eget s.e)) ++ caps))
    (hfz : ∀ i ∈ AV.idsL (args.toList.map (evalA (eget s.e)) ++ caps), i ∉ hc.map (·.1) → i ∈ fz) (hfz' : ∀ i ∈ fz, i ∉ hc.map (·.1) ∧ i ∉ h'.map (·.1))
    (hcl0 : closedIn (hc.map (·.1)) hc) (hcl : closedIn (h'.map (·.1)) h') (hr : ∀ i ∈ res.ids, i ∈ h'.map (·.1)) (hall : allSome h') (hd : dstOk n d)
    (hnew : newOrOld nb s (hc.map (·.1)) (h'.map (·.1)))
    (hK : VOps P n nb full r (s.step d res (h' ++ (hc.map fun x => (x.1, none)) ++ fz.map fun i => (i, none)))
      (addLog lg false ((AV.idsL (args.toList.map (evalA (eget s.e)) ++ caps) ++ (hc.map (·.1) ++ h'.map (·.1))) ++ ((h' ++ (hc.map fun x => (x.1, none)) ++ fz.map fun i => (i, none) : HL)).map (·.1)) (res.ids ++ updIds (h' ++ (hc.map fun x => (x.1, none)) ++ fz.map fun i => (i, none)))
        (((h' ++ (hc.map fun x => (x.1, none)) ++ fz.map fun i => (i, none) : HL)).map (·.1)) (newIds (hget s.h) (h' ++ (hc.map fun x => (x.1, none)) ++ fz.map fun i => (i, none)))) K) :
    VCl P n nb full ⟨d, .call { callee := .value fo, args := args, argTypes := ts }, t, p, e, none⟩ r s lg K :=
  VCl.subN hc fz hf (by subst hv; exact nlR_refl _ _ _) hcall hsub hp hfz hfz' hcl0 hcl hr hall hd hnew hK
end
end Go.AX
set_option linter.unusedVariables false
set_option linter.unusedSimpArgs false
set_option linter.unusedSectionVars false
namespace Go.AX

mutual
def AV.ren (π : Nat → Nat) : AV → AV
  | .box id o => .box (π id) o
  | .elt id i o n => .elt (π id) i o n
  | .arr id off len => .arr (π id) off len
  | .fn f caps => .fn f (AV.rens π caps)
  | .agg cs => .agg (AV.rens π cs)
  | .tup cs => .tup (AV.rens π cs)
  | .any => .any
  | .d x => .d x
  | .nils => .nils
  | .nilp => .nilp
  | .nl b => .nl b
  | .ref cs => .ref cs
def AV.rens (π : Nat → Nat) : List AV → List AV
  | [] => []
  | x :: r => x.ren π :: AV.rens π r
end
def AObj.ren (π : Nat → Nat) : AObj → AObj
  | .box cs => .box (AV.rens π cs)
  | .arr T sz es => .arr T sz es
  | .pre ds => .pre ds
def renH (π : Nat → Nat) (H : HF) : HF := fun i => (H (π i)).map (AObj.ren π)
def renL (π : Nat → Nat) : HL → HL
  | [] => []
  | (i, o) :: r => (π i, o.map (AObj.ren π)) :: renL π r

section
variable {π : Nat → Nat} (hπ : ∀ i, π (π i) = i)
include hπ
mutual
theorem RepV.ren {w A β H} : ∀ (x : AV) (v : Value), RepV w A (fun i => β (π i)) (renH π H) (x.ren π) v ↔ RepV w A β H x v
  | .any, v => by simp only [AV.ren, RepV]
  | .d x, v => by simp only [AV.ren, RepV]
  | .nils, v => by simp only [AV.ren, RepV]
  | .nilp, v => by simp only [AV.ren, RepV]
  | .nl _, v => by simp only [AV.ren, RepV]
  | .ref cs, v => by simp only [AV.ren, RepV]
  | .box id o, v => by
    simp only [AV.ren, RepV, renH, hπ]
    cases H id with
    | none => simp
    | some o' => cases o' <;> simp [AObj.ren]
  | .elt id i o n, v => by
    simp only [AV.ren, RepV, renH, hπ]
    cases H id with
    | none => simp
    | some o' => cases o' <;> simp [AObj.ren]
  | .arr id off len, v => by
    simp only [AV.ren, RepV, renH, hπ]
    cases H id with
    | none => simp
    | some o' => cases o' <;> simp [AObj.ren, RepArr, hπ]
  | .fn f caps, v => by
    simp only [AV.ren, RepV]
    exact ⟨fun ⟨cs, e, h⟩ => ⟨cs, e, (RepVs.ren caps cs.toList).1 h⟩, fun ⟨cs, e, h⟩ => ⟨cs, e, (RepVs.ren caps cs.toList).2 h⟩⟩
  | .agg cs, v => by
    simp only [AV.ren, RepV]
    exact ⟨fun ⟨vs, e, h⟩ => ⟨vs, e, (RepVs.ren cs vs.toList).1 h⟩, fun ⟨vs, e, h⟩ => ⟨vs, e, (RepVs.ren cs vs.toList).2 h⟩⟩
  | .tup cs, v => by
    simp only [AV.ren, RepV]
    exact ⟨fun ⟨vs, e, h⟩ => ⟨vs, e, (RepVs.ren cs vs.toList).1 h⟩, fun ⟨vs, e, h⟩ => ⟨vs, e, (RepVs.ren cs vs.toList).2 h⟩⟩
theorem RepVs.ren {w A β H} : ∀ (xs : List AV) (vs : List Value), RepVs w A (fun i => β (π i)) (renH π H) (AV.rens π xs) vs ↔ RepVs w A β H xs vs
  | [], vs => by simp only [AV.rens, RepVs]
  | x :: r, vs => by
    simp only [AV.rens, RepVs]
    exact ⟨fun ⟨v, t, e, h1, h2⟩ => ⟨v, t, e, (RepV.ren x v).1 h1, (RepVs.ren r t).1 h2⟩, fun ⟨v, t, e, h1, h2⟩ => ⟨v, t, e, (RepV.ren x v).2 h1, (RepVs.ren r t).2 h2⟩⟩
end

theorem pi_inj {i j : Nat} (h : π i = π j) : i = j := by have := congrArg π h; rwa [hπ, hπ] at this

theorem hget_renL : ∀ (h : HL), hget (renL π h) = renH π (hget h)
  | [] => rfl
  | (j, o) :: r => by
    funext i
    have ih := congrFun (hget_renL r) i
    simp only [renL, hget, renH] at ih ⊢
    by_cases e : i = π j
    · subst e; simp [hπ]
    · rw [if_neg e, if_neg (show ¬ π i = j by rintro rfl; exact e (hπ i).symm)]
      exact ih

theorem renH_none {H : HF} {i : Nat} : renH π H i ≠ none ↔ H (π i) ≠ none := by
  simp only [renH]
  cases H (π i) <;> simp

theorem HRel.ren {w A β H} : HRel w A (fun i => β (π i)) (renH π H) ↔ HRel w A β H := by
  constructor
  · intro h
    refine ⟨fun id cs hi => ?_, fun id T sz es hi => ?_, fun i j b hi hj h1 h2 => ?_, fun i b hi hb => ?_, h.bound, fun id ds hi => ?_⟩
    · obtain ⟨b, c, T, h1, h2, h3⟩ := h.box (π id) (AV.rens π cs) (by simp [renH, hπ, hi, AObj.ren])
      exact ⟨b, c, T, by rwa [hπ] at h1, h2, (RepVs.ren hπ cs c.toList).1 h3⟩
    · obtain ⟨h1, h2⟩ := h.arr (π id) T sz es (by simp [renH, hπ, hi, AObj.ren])
      simp only [hπ] at h2
      exact ⟨h1, h2⟩
    · exact pi_inj hπ (h.inj (π i) (π j) b (by rw [renH_none hπ, hπ]; exact hi) (by rw [renH_none hπ, hπ]; exact hj) (by rw [hπ]; exact h1) (by rw [hπ]; exact h2))
    · exact h.sepA (π i) b (by rw [renH_none hπ, hπ]; exact hi) (by rw [hπ]; exact hb)
    · obtain ⟨b, c, T, vs, us, h1, h2, h3, h4⟩ := h.pre (π id) ds (by simp [renH, hπ, hi, AObj.ren])
      exact ⟨b, c, T, vs, us, by rwa [hπ] at h1, h2, h3, h4.stableD (fun _ h => h) (fun _ _ => rfl)⟩
  · intro h
    refine ⟨fun id cs hi => ?_, fun id T sz es hi => ?_, fun i j b hi hj h1 h2 => ?_, fun i b hi hb => ?_, h.bound, fun id ds hi => ?_⟩
    · simp only [renH] at hi
      cases ho : H (π id) with
      | none => rw [ho] at hi; simp at hi
      | some o =>
        rw [ho] at hi
        cases o with
        | box cs0 =>
          simp [AObj.ren] at hi
          obtain ⟨b, c, T, h1, h2, h3⟩ := h.box (π id) cs0 ho
          exact ⟨b, c, T, h1, h2, by rw [← hi]; exact (RepVs.ren hπ cs0 c.toList).2 h3⟩
        | arr _ _ _ => simp [AObj.ren] at hi
        | pre _ => simp [AObj.ren] at hi
    · simp only [renH] at hi
      cases ho : H (π id) with
      | none => rw [ho] at hi; simp at hi
      | some o =>
        rw [ho] at hi
        cases o with
        | box cs0 => simp [AObj.ren] at hi
        | pre _ => simp [AObj.ren] at hi
        | arr T0 sz0 es0 =>
          simp [AObj.ren] at hi
          obtain ⟨rfl, rfl, rfl⟩ := hi
          exact h.arr (π id) _ _ _ ho
    · exact pi_inj hπ (h.inj (π i) (π j) b ((renH_none hπ).1 hi) ((renH_none hπ).1 hj) h1 h2)
    · exact h.sepA (π i) b ((renH_none hπ).1 hi) hb
    · simp only [renH] at hi
      cases ho : H (π id) with
      | none => rw [ho] at hi; simp at hi
      | some o =>
        rw [ho] at hi
        cases o with
        | box cs0 => simp [AObj.ren] at hi
        | arr T0 sz0 es0 => simp [AObj.ren] at hi
        | pre ds0 =>
          simp [AObj.ren] at hi
          subst hi
          obtain ⟨b, c, T, vs, us, h1, h2, h3, h4⟩ := h.pre (π id) ds0 ho
          exact ⟨b, c, T, vs, us, h1, h2, h3, h4.stableD (fun _ h => h) (fun _ _ => rfl)⟩

theorem Keep.ren {w w' β β' i o o'} (h : Keep w w' β β' (π i) o o') : Keep w w' (fun i => β (π i)) (fun i => β' (π i)) i (o.ren π) (o'.ren π) := by
  cases o <;> cases o' <;> simp only [AObj.ren, Keep] at h ⊢ <;> exact h

theorem Trans.ren {w A β H w' A' β' H'} (h : Trans w A β H w' A' β' H') : Trans w A (fun i => β (π i)) (renH π H) w' A' (fun i => β' (π i)) (renH π H') := by
  refine ⟨h.size, h.os, h.tape, h.output, fun b hb hi => h.same b hb fun i hi' => ?_, h.mono, fun b hb => ?_, fun i b hi hb => ?_, fun i o o' ho ho' => ?_⟩
  · have := hi (π i) (by rw [renH_none hπ, hπ]; exact hi')
    simpa only [hπ] using this
  · rcases h.new b hb with h1 | h1 | ⟨i, h1, h2⟩
    · exact .inl h1
    · exact .inr (.inl h1)
    · exact .inr (.inr ⟨π i, by rw [renH_none hπ, hπ]; exact h1, by rw [hπ]; exact h2⟩)
  · rcases h.own (π i) b ((renH_none hπ).1 hi) hb with h1 | ⟨j, h1, h2⟩
    · exact .inl h1
    · exact .inr ⟨π j, by rw [renH_none hπ, hπ]; exact h1, by rw [hπ]; exact h2⟩
  · simp only [renH, Option.map_eq_some_iff] at ho ho'
    obtain ⟨o0, h1, rfl⟩ := ho
    obtain ⟨o1, h2, rfl⟩ := ho'
    exact Keep.ren hπ (h.keep (π i) o0 o1 h1 h2)

theorem ACalls.ren {P f args h r h'} (hc : ACalls P f args h r h') : ACalls P f (AV.rens π args) (renL π h) (r.ren π) (renL π h') := by
  refine ⟨hc.1, fun A β w vs hv hh => ?_⟩
  rw [hget_renL hπ] at hv hh ⊢
  have eβ : β = fun i => (fun j => β (π j)) (π i) := by funext i; simp only [hπ]
  have hv' := (RepVs.ren hπ (β := fun j => β (π j)) args vs.toList).1 (by rw [← eβ]; exact hv)
  have hh' := (HRel.ren hπ (β := fun j => β (π j))).1 (by rw [← eβ]; exact hh)
  refine Calls.mono (hc.2 A (fun j => β (π j)) w vs hv' hh') fun e w' => ?_
  rintro ⟨v, A', β', he, h1, h2, h3⟩
  refine ⟨v, A', fun i => β' (π i), he, ?_, ?_, ?_⟩
  · exact (RepV.ren hπ r v).2 h1
  · exact (HRel.ren hπ).2 h2
  · have := h3.ren hπ
    rw [← eβ] at this
    rw [hget_renL hπ]
    exact this
end

/-- Two names change places. -/
def swp (a b i : Nat) : Nat := if i = a then b else if i = b then a else i
theorem swp_swp (a b i : Nat) : swp a b (swp a b i) = i := by
  unfold swp; split <;> split <;> (try split) <;> omega
theorem ACalls.swap (a b : Nat) {P f args h r h'} (hc : ACalls P f args h r h') : ACalls P f (AV.rens (swp a b) args) (renL (swp a b) h) (r.ren (swp a b)) (renL (swp a b) h') := hc.ren (swp_swp a b)
end Go.AX
set_option linter.unusedVariables false
set_option linter.unusedSimpArgs false
namespace Go.AX
theorem wrap64 {x : Int} (h : -9223372036854775808 ≤ x) (h' : x ≤ 9223372036854775807) : IntKind.i64.wrap x = x := by
  unfold IntKind.wrap
  simp only [IntKind.signed, IntKind.bits]
  simp
  omega
/-- A guard: both ways. -/
theorem VGd_cases {P n nb full o w r s lg K} {b : Bool} (ht : b = true → VGd P n nb full o w r s lg K (.d (.bool true))) (hf : b = false → VGd P n nb full o w r s lg K (.d (.bool false))) :
    VGd P n nb full o w r s lg K (.d (.bool b)) := by cases b; exact hf rfl; exact ht rfl
def ints (l : List Int) : List (List D) := l.map fun x => [.int .i64 x]
theorem ints_len (l : List Int) : (ints l).length = l.length := by simp [ints]
/-- What a closure has captured: values, and objects that its caller lends it. -/
structure Clo (h : HL) (caps : List AV) : Prop where
  sub : subOf (hget h) h
  closed : closedIn (h.map (·.1)) h
  all : allSome h
  view : AV.viewXs (h.map (·.1)) (hget h) caps = caps
  viewP : AV.viewXPs (h.map (·.1)) (hget h) caps
  ids : ∀ i ∈ AV.idsL caps, i ∈ h.map (·.1)
theorem subH_of_get {H : HF} : ∀ {h : HL}, (∀ i ∈ h.map (·.1), H i = hget h i) → subOf (hget h) h → subH H h := by
  have key : ∀ (l h : HL), (∀ i ∈ l.map (·.1), H i = hget h i) → subOf (hget h) l → subH H l := by
    intro l
    induction l with
    | nil => intro _ _ _; trivial
    | cons x r ih =>
      intro h hh hs
      obtain ⟨i, o⟩ := x
      cases o with
      | none => simp only [subOf] at hs
      | some o =>
        obtain ⟨h1, h2⟩ := hs
        refine ⟨by rw [hh i (by simp), h1], ih h (fun j hj => hh j (by simp only [List.map_cons, List.mem_cons]; exact .inr hj)) h2⟩
  exact fun {h} a b => key h h a b
theorem Clo.subH {h r : HL} {caps} (hc : Clo h caps) : AX.subH (hget (h ++ r)) h :=
  subH_of_get (fun i hi => by rw [hget_append, updF_get, if_pos hi]) hc.sub
section
variable {P : Program} {n nb : Nat} {full r : List Oper} {s : St} {lg : Log} {K : Log → St → Prop} {d : Option Nat} {t : Nat} {p : String} {e : Array Edge}
  {fo : Operand} {args : Array Operand} {ts : Array Nat}
end
end Go.AX
set_option linter.unusedVariables false
set_option linter.unusedSimpArgs false
namespace Go.AX

theorem ids_box (cs : List AV) : (AObj.box cs).ids = AV.idsL cs := rfl
theorem ids_arr (T sz es) : (AObj.arr T sz es).ids = [] := rfl

/-- A result that lies in a variable in memory. -/
theorem load_run {P : Program} {n A β E H a w} (hc : CfgF n A β E H a w) {x : Nat} {t id o : Nat} (hx : E x = .box id o) (h : (aLoad P t (.box id o) H).pre) :
    ∃ v, (do loadVar t (← asAddr (a.tmps.getD x undef))).run P w = .ok v w ∧ RepV w A β H (aLoad P t (.box id o) H).res v := by
  have h2 := hc.env x
  rw [hx] at h2
  simp only [aLoad] at h ⊢
  split at h
  · rename_i cs ho
    simp only [RepV, ho] at h2
    obtain ⟨b, hb, e1⟩ := h2
    obtain ⟨b', c, T, hb', hcell, hr⟩ := hc.heap.box id cs ho
    rw [hb] at hb'; cases hb'
    have := run_loadVar (P := P) (t := t) (b := b) (o := o) h.1 h.2.1 (hr.drop o) (fun j v hj => by
      rw [List.getElem?_drop] at hj
      simpa [World.cell?, hcell] using hj) (by simp; omega)
    obtain ⟨v, h3, h4⟩ := this
    refine ⟨v, by simp [e1, asAddr, h3], ?_⟩
    simpa only [cut, List.drop_zero, ho] using h4
  · rename_i ds ho
    simp only [RepV, ho] at h2
    obtain ⟨b, hb, e1⟩ := h2
    obtain ⟨b', c, T, us, vs, hb', hcell, hcs, hr⟩ := hc.heap.pre id ds ho
    rw [hb] at hb'; cases hb'
    have hlen := hr.length
    rw [List.length_map] at hlen
    have := run_loadVar (P := P) (t := t) (b := b) (o := o) h.1 (by omega) (hr.drop o) (fun j v hj => by
      rw [List.getElem?_drop] at hj
      have hlt : o + j < us.length := by
        rcases Nat.lt_or_ge (o + j) us.length with h | h
        · exact h
        · rw [List.getElem?_eq_none h] at hj; cases hj
      have h5 : c.toList[o + j]? = some v := by rw [hcs, List.getElem?_append_left hlt]; exact hj
      simpa [World.cell?, hcell] using h5) (by rw [List.length_drop, List.length_map]; omega)
    obtain ⟨v, h3, h4⟩ := this
    refine ⟨v, by simp [e1, asAddr, h3], ?_⟩
    simpa only [cut, List.drop_zero, ho] using h4
  · exact h.elim

theorem ACalls.of_cell {P : Program} {f : FuncId} {args : List AV} {h : HL} {fn : Func} {c : Code} {n : Nat} (Q : AV → HL → Prop) (nb : Nat) (x t : Nat) (hf : P.funcs[f]? = some fn) (hb : fn.body = some c)
    (hn : (fn.name == "runtime.NumGoroutine") = false) (hr : fn.results = #[.cell x t]) (hnt : fn.ntmps = n) (hsz : args.length ≤ n) (hnb : ∀ i, hget h i ≠ none → i < nb)
    (hs : Walk P n nb [.code c] (fun s' => ∃ id o, eget s'.e x = .box id o ∧ (aLoad P t (.box id o) (hget s'.h)).pre ∧ ∃ h', subH (hget s'.h) h' ∧ Q (aLoad P t (.box id o) (hget s'.h)).res h') ⟨argE 0 args, h⟩) : ∃ r h', Q r h' ∧ ACalls P f args h r h' := by
  obtain ⟨s', ⟨id, o, hx, hp, h', h0, h1⟩, h2⟩ := hs
  refine ⟨_, h', h1, ?_⟩
  subst hnt
  refine ⟨⟨fn, hf, by simp [hb], hn⟩, fun A β w vs hv hh => ?_⟩
  obtain ⟨hlen, hget⟩ := hv.get2
  have hlen' : vs.size = args.length := by simpa using hlen.symm
  intro cs
  let b : Frame := { (default : Frame) with fn := f, kind := .normal }
  have henter : Frame.enter P f vs .normal = b.at { tmps := vs ++ Array.replicate (fn.ntmps - vs.size) undef, defers := [] } [.code c] := by
    simp [Frame.enter, Frame.at, hf, hb, b]
  have hcfg : CfgF fn.ntmps A β (eget (argE 0 args)) (AX.hget h) { tmps := vs ++ Array.replicate (fn.ntmps - vs.size) undef, defers := [] } w := by
    refine ⟨by simp; omega, rfl, fun t => ?_, hh⟩
    rw [argE_get]
    simp only [Nat.not_lt_zero, if_false, Nat.sub_zero]
    by_cases ht : t < vs.size
    · have h1 : (vs ++ Array.replicate (fn.ntmps - vs.size) undef).getD t undef = vs[t] := by
        rw [Array.getD_eq_getD_getElem?, Array.getElem?_append_left ht]; simp [ht]
      rw [h1]
      obtain ⟨x, hx, hrx⟩ := hget t vs[t] (by simp [ht])
      rw [hx]; exact hrx
    · have : args[t]? = none := by rw [List.getElem?_eq_none_iff]; omega
      rw [this]; simp only [Option.getD_none, RepV]
  obtain ⟨a', w', t', s2, g1, rfl, A', β', g4, g5⟩ := h2 ⟨w, A, β, AX.hget h⟩ hnb _ w ⟨A, β, hcfg, Trans.refl _ _ _ _⟩ b cs
  obtain ⟨v, g8, g9⟩ := load_run g4 hx hp
  obtain ⟨g6, g7⟩ := g4.weaken (E' := eget s2.e) (fun _ => .inr rfl) (subH_get h0)
  have hres : (results fn a'.tmps).run P w' = .ok v w' := by
    simp only [results, hr]
    simp at g8 ⊢
    simp [g8]
  have g9' : RepV w' A' β' (AX.hget h') (aLoad P t (.box id o) (AX.hget s2.h)).res v := RepV.stable (fun _ h => h) (fun _ _ => rfl) _ _ (fun i _ o' ho' => by
    rcases subH_get h0 i with h3 | h3
    · rw [h3] at ho'; cases ho'
    · exact ⟨o', by rw [← h3]; exact ho', Keep.refl _ _ _ _⟩) g9
  rw [henter]
  refine ⟨.returned v, w', _, ⟨_, A', β', rfl, g9', g6.heap, g5.comp g7 fun i _ hi => ?_⟩, g1, rfl, rfl, g4.defers, rfl, fn, hf, hres⟩
  rcases subH_get h0 i with h3 | h3
  · exact h3
  · rw [h3]; exact hi
end Go.AX
set_option linter.unusedVariables false
set_option linter.unusedSimpArgs false
namespace Go.AX

/-- The variable of a tape of numbers. -/
def tape (l : List Int) (at' : Nat) : AObj := .box [.d (.sl (ints l)), .d (.int .i64 at')]
theorem CfgF.recast {n A β E H a w A1 β1 H1} (h : CfgF n A β E H a w) (h1 : CfgF n A1 β1 E H1 a w) {E' : EF} {H2 : HF} (hE : ∀ t v, RepV w A β H (E t) v → RepV w A1 β1 H1 (E' t) v)
    (hb : ∀ i cs', H2 i = some (.box cs') → ∃ cs, H i = some (.box cs) ∧ H1 i = some (.box cs) ∧ β1 i = β i ∧ ∀ vs, RepVs w A β H cs vs → RepVs w A1 β1 H1 cs' vs)
    (ha : ∀ i T sz es, H2 i = some (.arr T sz es) → H1 i = some (.arr T sz es)) (hp : ∀ i ds, H2 i = some (.pre ds) → H1 i = some (.pre ds)) : CfgF n A1 β1 E' H2 a w ∧ Trans w A1 β1 H1 w A1 β1 H2 := by
  have hk : ∀ i o', H2 i = some o' → ∃ o, H1 i = some o ∧ Keep w w β1 β1 i o o' := fun i o' ho' => by
    cases o' with
    | box cs' =>
      obtain ⟨cs, _, h3, _⟩ := hb i cs' ho'
      exact ⟨_, h3, rfl, fun _ _ => rfl⟩
    | arr T sz es => exact ⟨_, ha i T sz es ho', Keep.refl _ _ _ _⟩
    | pre ds => exact ⟨_, hp i ds ho', Keep.refl _ _ _ _⟩
  have hn : ∀ i, H2 i ≠ none → H1 i ≠ none := fun i hi => by
    cases ho : H2 i with
    | none => exact absurd ho hi
    | some o => obtain ⟨o1, h3, _⟩ := hk i o ho; rw [h3]; simp
  have hs : ∀ x v, RepV w A1 β1 H1 x v → RepV w A1 β1 H2 x v := fun x v hv => RepV.stable (fun _ h => h) (fun _ _ => rfl) _ _ (fun i _ o' ho' => hk i o' ho') hv
  have hss : ∀ x v, RepVs w A1 β1 H1 x v → RepVs w A1 β1 H2 x v := fun x v hv => RepVs.stable (fun _ h => h) (fun _ _ => rfl) _ _ (fun i _ o' ho' => hk i o' ho') hv
  refine ⟨⟨h.size, h.defers, fun t => hs _ _ (hE t _ (h.env t)), ⟨fun id cs' hi => ?_, fun id T sz es hi => h1.heap.arr id T sz es (ha id T sz es hi), fun i j b hi hj => h1.heap.inj i j b (hn i hi) (hn j hj), fun i b hi => h1.heap.sepA i b (hn i hi), h1.heap.bound, fun id ds hi => by
      obtain ⟨b, c, T, vs, us, k1, k2, k3, k4⟩ := h1.heap.pre id ds (hp id ds hi)
      exact ⟨b, c, T, vs, us, k1, k2, k3, k4.stableD (fun _ h => h) (fun _ _ => rfl)⟩⟩⟩,
    ⟨Nat.le_refl _, rfl, rfl, rfl, fun _ _ _ => rfl, fun _ h => h, fun _ h => .inl h, fun i b hi hb => .inr ⟨i, hn i hi, hb⟩, fun i o o' h3 h4 => by
      obtain ⟨o2, h5, h6⟩ := hk i o' h4
      rw [h3] at h5; cases h5; exact h6⟩⟩
  obtain ⟨cs, g1, g2, g3, g4⟩ := hb id cs' hi
  obtain ⟨b, c, T, k1, k2, k3⟩ := h.heap.box id cs g1
  exact ⟨b, c, T, by rw [g3]; exact k1, k2, hss _ _ (g4 _ k3)⟩

theorem CfgF.addNil {n A β E H a w} (h : CfgF n A β E H a w) {nm : Nat} (hf : Fresh nm E H) (T sz : Nat) :
    CfgF n A (fun i => if i = nm then none else β i) E (fun i => if i = nm then some (.arr T sz []) else H i) a w ∧
    Trans w A β H w A (fun i => if i = nm then none else β i) (fun i => if i = nm then some (.arr T sz []) else H i) := by
  have hk : ∀ i o', (if i = nm then some (.arr T sz []) else H i) = some o' → (∃ o, H i = some o ∧ Keep w w β (fun i => if i = nm then none else β i) i o o') ∨ Fresh i E H := fun i o' ho' => by
    by_cases e : i = nm
    · subst e; exact .inr hf
    · rw [if_neg e] at ho'
      refine .inl ⟨o', ho', ?_⟩
      cases o' with
      | pre _ => exact ⟨by simp only [e, if_false], fun _ _ => rfl⟩
      | box _ => exact ⟨by simp only [e, if_false], fun _ _ => rfl⟩
      | arr _ _ _ => exact ⟨rfl, rfl, Nat.le_refl _, fun _ => ⟨by simp only [e, if_false], fun _ _ => rfl⟩⟩
  have hne : ∀ i, i ≠ nm → (if i = nm then some (AObj.arr T sz []) else H i) = H i := fun i e => if_neg e
  refine ⟨h.update (fun _ h => h) (fun _ _ => rfl) hk ?_, ⟨Nat.le_refl _, rfl, rfl, rfl, fun _ _ _ => rfl, fun _ h => h, fun _ h => .inl h, fun i b hi hb => ?_, fun i o o' ho ho' => ?_⟩⟩
  · refine ⟨fun id cs hi => ?_, fun id T' sz' es hi => ?_, fun i j b hi hj hb1 hb2 => ?_, fun i b hi hb => ?_, h.heap.bound, fun id ds hi => ?_⟩
    · by_cases e : id = nm
      · simp [e] at hi
      · rw [if_neg e] at hi
        obtain ⟨b, c, T', h1, h2, h3⟩ := h.heap.box id cs hi
        exact ⟨b, c, T', by rw [if_neg e]; exact h1, h2, RepVs.stable (fun _ h => h) (fun _ _ => rfl) _ _ (fun i him o' ho' => by
          rcases hk i o' ho' with h4 | h4
          · exact h4
          · exact absurd him (h4.2.2 id _ hi)) h3⟩
    · by_cases e : id = nm
      · simp [e] at hi
        obtain ⟨rfl, rfl, rfl⟩ := hi
        exact ⟨by simp, .inl ⟨by simp [e], rfl⟩⟩
      · rw [if_neg e] at hi
        obtain ⟨h1, h2⟩ := h.heap.arr id T' sz' es hi
        exact ⟨h1, by simp only [e, if_false]; exact h2⟩
    · by_cases e1 : i = nm
      · simp [e1] at hb1
      · by_cases e2 : j = nm
        · simp [e2] at hb2
        · simp only [e1, e2, if_false] at hi hj hb1 hb2
          exact h.heap.inj i j b hi hj hb1 hb2
    · by_cases e1 : i = nm
      · simp [e1] at hb
      · simp only [e1, if_false] at hi hb
        exact h.heap.sepA i b hi hb
    · by_cases e : id = nm
      · simp [e] at hi
      · rw [if_neg e] at hi
        obtain ⟨b, c, T', vs, us, h1, h2, h3, h4⟩ := h.heap.pre id ds hi
        exact ⟨b, c, T', vs, us, by rw [if_neg e]; exact h1, h2, h3, h4.stableD (fun _ h => h) (fun _ _ => rfl)⟩
  · by_cases e1 : i = nm
    · simp [e1] at hb
    · simp only [e1, if_false] at hi hb
      exact .inr ⟨i, hi, hb⟩
  · rcases hk i o' ho' with ⟨o2, h1, h2⟩ | h1
    · rw [ho] at h1; cases h1; exact h2
    · rw [h1.1] at ho; cases ho

/-- nil taken as an empty array -/
def upV (nm : Nat) (x x' : AV) : Prop := x = x' ∨ (x = .nils ∧ x' = .arr nm 0 0)
def upVs (nm : Nat) : List AV → List AV → Prop
  | [], [] => True
  | x :: r, x' :: r' => upV nm x x' ∧ upVs nm r r'
  | _, _ => False
def upE (nm : Nat) (E : EF) : EL → Prop
  | [] => True
  | (t, x) :: r => upV nm (E t) x ∧ upE nm E r
def upO (nm : Nat) : Option AObj → Option AObj → Prop
  | some (.box cs), some (.box cs') => upVs nm cs cs'
  | o, o' => o = o'
def upH (nm : Nat) (H : HF) : HL → Prop
  | [] => True
  | (i, o) :: r => (i ≠ nm ∧ upO nm (H i) o) ∧ upH nm H r

theorem upV_rep {nm w A β H} (hb : β nm = none) {T sz} (hH : H nm = some (.arr T sz [])) {x x' : AV} (h : upV nm x x') {v} (hv : RepV w A β H x v) : RepV w A β H x' v := by
  rcases h with rfl | ⟨rfl, rfl⟩
  · exact hv
  · simp only [RepV] at hv
    obtain ⟨a, rfl⟩ := hv
    simp only [RepV, hH]
    exact ⟨⟨a, 0, rfl, Nat.le_refl _⟩, by simp, fun _ => .inl ⟨hb, rfl, a, rfl⟩⟩
theorem upVs_rep {nm w A β H} (hb : β nm = none) {T sz} (hH : H nm = some (.arr T sz [])) : ∀ {x x' : List AV}, upVs nm x x' → ∀ {v}, RepVs w A β H x v → RepVs w A β H x' v
  | [], [], _, v, hv => hv
  | x :: r, x' :: r', h, v, hv => by
    simp only [RepVs] at hv ⊢
    obtain ⟨v, t, rfl, h1, h2⟩ := hv
    exact ⟨v, t, rfl, upV_rep hb hH h.1 h1, upVs_rep hb hH h.2 h2⟩
  | [], _ :: _, h, _, _ => by simp only [upVs] at h
  | _ :: _, [], h, _, _ => by simp only [upVs] at h
theorem upE_get {nm E} : ∀ {e : EL}, upE nm E e → ∀ t, eget e t = .any ∨ upV nm (E t) (eget e t)
  | [], _, t => .inl rfl
  | (j, x) :: r, h, t => by
    simp only [eget]
    split
    · rename_i e; subst e; exact .inr h.1
    · exact upE_get h.2 t
theorem upH_get {nm H} : ∀ {h : HL}, upH nm H h → ∀ i, hget h i = none ∨ (i ≠ nm ∧ upO nm (H i) (hget h i))
  | [], _, i => .inl rfl
  | (j, x) :: r, h, i => by
    simp only [hget]
    split
    · rename_i e; subst e; exact .inr h.1
    · exact upH_get h.2 i

theorem upVs_refl (nm : Nat) : ∀ cs : List AV, upVs nm cs cs
  | [] => trivial
  | x :: r => ⟨.inl rfl, upVs_refl nm r⟩
theorem upO_refl (nm : Nat) (o : Option AObj) : upO nm o o = True := by
  cases o with
  | none => simp [upO]
  | some o => cases o with
    | box cs => simp [upO, upVs_refl]
    | arr _ _ _ => simp [upO]
    | pre _ => simp [upO]
theorem upO_box (nm : Nat) (cs cs' : List AV) : upO nm (some (.box cs)) (some (.box cs')) = upVs nm cs cs' := rfl

theorem Walk.ghost {P n nb R k} {s : St} (s' : St) (hg : ∀ A β a w, CfgF n A β (eget s.e) (hget s.h) a w → ∃ A' β', CfgF n A' β' (eget s'.e) (hget s'.h) a w ∧ Trans w A β (hget s.h) w A' β' (hget s'.h))
    (hnb : ∀ i, hget s.h i = none → hget s'.h i ≠ none → nb ≤ i) (h : Walk P n nb k R s') : Walk P n nb k R s := by
  obtain ⟨t, h1, h2⟩ := h
  refine ⟨t, h1, fun B hB a w hc b cs => ?_⟩
  obtain ⟨A, β, g1, g2⟩ := hc
  obtain ⟨A', β', g3, g4⟩ := hg A β a w g1
  refine h2 B hB a w ⟨A', β', g3, g2.comp g4 fun i hi hn => ?_⟩ b cs
  cases ho : hget s'.h i with
  | none => rfl
  | some o => have := hnb i hn (by simp [ho]); have := hB i hi; omega

/-- nil slices in slots and in boxes are taken as one empty array. -/
theorem Walk.up {P n nb R k} {s : St} (nm T sz : Nat) (e' : EL) (h' : HL) (hE : upE nm (eget s.e) e') (hH : upH nm (hget s.h) h') (hnm : nb ≤ nm) (h0 : hget s.h nm = none) (f1 : freshE nm s.e) (f2 : freshH nm s.h)
    (h : Walk P n nb k R ⟨e', (nm, some (.arr T sz [])) :: h'⟩) : Walk P n nb k R s := by
  have hge : ∀ i, hget ((nm, some (AObj.arr T sz [])) :: h') i = if i = nm then some (.arr T sz []) else hget h' i := fun i => rfl
  refine h.ghost _ (fun A β a w hc => ?_) fun i hn hs => ?_
  · obtain ⟨g1, g2⟩ := hc.addNil (fresh_of f1 f2) T sz
    have hnmH : (fun i => if i = nm then some (AObj.arr T sz []) else hget s.h i) nm = some (.arr T sz []) := by simp
    have hst : ∀ x v, (∀ i ∈ x.ids, i ≠ nm) → RepV w A β (hget s.h) x v → RepV w A (fun i => if i = nm then none else β i) (fun i => if i = nm then some (AObj.arr T sz []) else hget s.h i) x v := fun x v hx hv =>
      RepV.stable (fun _ h => h) (fun _ _ => rfl) _ _ (fun i hi o' ho' => by
        have := hx i hi
        simp only [this, if_false] at ho'
        refine ⟨o', ho', ?_⟩
        cases o' with
        | pre _ => exact ⟨by simp only [this, if_false], fun _ _ => rfl⟩
        | box _ => exact ⟨by simp only [this, if_false], fun _ _ => rfl⟩
        | arr _ _ _ => exact ⟨rfl, rfl, Nat.le_refl _, fun _ => ⟨by simp only [this, if_false], fun _ _ => rfl⟩⟩) hv
    have hsts : ∀ x v, (∀ i ∈ AV.idsL x, i ≠ nm) → RepVs w A β (hget s.h) x v → RepVs w A (fun i => if i = nm then none else β i) (fun i => if i = nm then some (AObj.arr T sz []) else hget s.h i) x v := fun x v hx hv =>
      RepVs.stable (fun _ h => h) (fun _ _ => rfl) _ _ (fun i hi o' ho' => by
        have := hx i hi
        simp only [this, if_false] at ho'
        refine ⟨o', ho', ?_⟩
        cases o' with
        | pre _ => exact ⟨by simp only [this, if_false], fun _ _ => rfl⟩
        | box _ => exact ⟨by simp only [this, if_false], fun _ _ => rfl⟩
        | arr _ _ _ => exact ⟨rfl, rfl, Nat.le_refl _, fun _ => ⟨by simp only [this, if_false], fun _ _ => rfl⟩⟩) hv
    obtain ⟨g3, g4⟩ := hc.recast g1 (E' := eget e') (H2 := hget ((nm, some (AObj.arr T sz [])) :: h')) (fun t v hv => by
        rcases upE_get hE t with h3 | h3
        · rw [h3]; simp only [RepV]
        · exact upV_rep (by simp) hnmH h3 (hst _ v (fun i hi e => freshE_get f1 t (e ▸ hi)) hv))
      (fun i cs' hi => by
        rw [hge] at hi
        by_cases e : i = nm
        · simp [e] at hi
        · rw [if_neg e] at hi
          rcases upH_get hH i with h3 | ⟨_, h3⟩
          · rw [h3] at hi; cases hi
          · rw [hi] at h3
            cases ho : hget s.h i with
            | none => rw [ho] at h3; simp [upO] at h3
            | some o =>
              rw [ho] at h3
              cases o with
              | arr _ _ _ => simp [upO] at h3
              | pre _ => simp [upO] at h3
              | box cs =>
                simp only [upO] at h3
                refine ⟨cs, rfl, by simp [e, ho], by simp [e], fun vs hvs => upVs_rep (by simp) hnmH h3 (hsts _ vs (fun j hj ej => ?_) hvs)⟩
                exact (freshH_get f2).2 i _ ho (ej ▸ hj))
      (fun i T' sz' es hi => by
        rw [hge] at hi
        by_cases e : i = nm
        · rw [if_pos e] at hi ⊢; exact hi
        · rw [if_neg e] at hi
          simp only [e, if_false]
          rcases upH_get hH i with h3 | ⟨_, h3⟩
          · rw [h3] at hi; cases hi
          · rw [hi] at h3
            cases ho : hget s.h i with
            | none => rw [ho] at h3; simp [upO] at h3
            | some o =>
              rw [ho] at h3
              cases o with
              | arr _ _ _ => simpa [upO] using h3
              | pre _ => simp [upO] at h3
              | box cs => simp [upO] at h3)
      (fun i ds hi => by
        rw [hge] at hi
        by_cases e : i = nm
        · rw [if_pos e] at hi ⊢; exact hi
        · rw [if_neg e] at hi
          simp only [e, if_false]
          rcases upH_get hH i with h3 | ⟨_, h3⟩
          · rw [h3] at hi; cases hi
          · rw [hi] at h3
            cases ho : hget s.h i with
            | none => rw [ho] at h3; simp [upO] at h3
            | some o =>
              rw [ho] at h3
              cases o with
              | arr _ _ _ => simp [upO] at h3
              | pre _ => simpa [upO] using h3
              | box cs => simp [upO] at h3)
    exact ⟨A, _, g3, g2.comp g4 fun i hi hn => by
      rw [hge]
      by_cases e : i = nm
      · simp [e] at hn
      · rw [if_neg e] at hn ⊢
        rcases upH_get hH i with h3 | ⟨_, h3⟩
        · exact h3
        · exact absurd hn hi⟩
  · simp only at hs
    rw [hge] at hs
    by_cases e : i = nm
    · omega
    · rw [if_neg e] at hs
      rcases upH_get hH i with h3 | ⟨_, h3⟩
      · exact absurd h3 hs
      · rw [hn] at h3
        simp only [upO] at h3
        exact absurd h3.symm hs

/-- an array taken as data, for good -/
def frV (id : Nat) (es : List (List D)) (x x' : AV) : Prop := x = x' ∨ ∃ off len, x = .arr id off len ∧ off + len = es.length ∧ x' = .d (.sl ((es.drop off).take len))
def frVs (id : Nat) (es : List (List D)) : List AV → List AV → Prop
  | [], [] => True
  | x :: r, x' :: r' => frV id es x x' ∧ frVs id es r r'
  | _, _ => False
def frE (id : Nat) (es : List (List D)) (E : EF) : EL → Prop
  | [] => True
  | (t, x) :: r => frV id es (E t) x ∧ frE id es E r
def frO (id : Nat) (es : List (List D)) : Option AObj → Option AObj → Prop
  | some (.box cs), some (.box cs') => frVs id es cs cs'
  | o, o' => o = o'
def frH (id : Nat) (es : List (List D)) (H : HF) : HL → Prop
  | [] => True
  | (i, o) :: r => (i ≠ id ∧ frO id es (H i) o) ∧ frH id es H r
theorem frE_get {id es E} : ∀ {e : EL}, frE id es E e → ∀ t, eget e t = .any ∨ frV id es (E t) (eget e t)
  | [], _, t => .inl rfl
  | (j, x) :: r, h, t => by
    simp only [eget]
    split
    · rename_i e; subst e; exact .inr h.1
    · exact frE_get h.2 t
theorem frH_get {id es H} : ∀ {h : HL}, frH id es H h → ∀ i, hget h i = none ∨ (i ≠ id ∧ frO id es (H i) (hget h i))
  | [], _, i => .inl rfl
  | (j, x) :: r, h, i => by
    simp only [hget]
    split
    · rename_i e; subst e; exact .inr h.1
    · exact frH_get h.2 i

theorem frV_refl (id : Nat) (es x) : frV id es x x = True := by simp [frV]
theorem frV_arr (id : Nat) (es) (off len : Nat) (x : D) : frV id es (.arr id off len) (.d x) = (off + len = es.length ∧ x = .sl ((es.drop off).take len)) := by
  simp only [frV, reduceCtorEq, false_or, AV.arr.injEq, true_and, AV.d.injEq, eq_iff_iff]
  constructor
  · rintro ⟨o, n, ⟨rfl, rfl⟩, h1, h2⟩; exact ⟨h1, h2⟩
  · rintro ⟨h1, h2⟩; exact ⟨off, len, ⟨rfl, rfl⟩, h1, h2⟩
theorem frVs_refl (id : Nat) (es) : ∀ cs : List AV, frVs id es cs cs
  | [] => trivial
  | x :: r => ⟨.inl rfl, frVs_refl id es r⟩
theorem frO_refl (id : Nat) (es) (o : Option AObj) : frO id es o o = True := by
  cases o with
  | none => simp [frO]
  | some o => cases o with
    | box cs => simp [frO, frVs_refl]
    | arr _ _ _ => simp [frO]
    | pre _ => simp [frO]
theorem frO_box (id : Nat) (es) (cs cs' : List AV) : frO id es (some (.box cs)) (some (.box cs')) = frVs id es cs cs' := rfl

theorem Walk.freezeG {P n nb R k} {s : St} (id : Nat) (es : List (List D)) (e' : EL) (h' : HL)
    (hfz : ∀ A β a w, CfgF n A β (eget s.e) (hget s.h) a w → ∀ off len v, RepV w A β (hget s.h) (.arr id off len) v → off + len = es.length → RepD w (fun b => A b ∨ (hget s.h id ≠ none ∧ β id = some b)) (.sl ((es.drop off).take len)) v) (hE : frE id es (eget s.e) e') (hH : frH id es (hget s.h) h')
    (h : Walk P n nb k R ⟨e', h'⟩) : Walk P n nb k R s := by
  refine h.ghost _ (fun A β a w hc => ?_) fun i hn hs => ?_
  · obtain ⟨g1, g2⟩ := hc.freeze id
    have hk : ∀ i o', (if i = id then none else hget s.h i) = some o' → ∃ o, hget s.h i = some o ∧ Keep w w β β i o o' := fun i o' ho' => by
      by_cases e : i = id
      · simp [e] at ho'
      · rw [if_neg e] at ho'; exact ⟨o', ho', Keep.refl _ _ _ _⟩
    have hst : ∀ x v, RepV w A β (hget s.h) x v → RepV w (fun b => A b ∨ (hget s.h id ≠ none ∧ β id = some b)) β (fun i => if i = id then none else hget s.h i) x v := fun x v hv =>
      RepV.stable (fun _ h => .inl h) (fun _ _ => rfl) _ _ (fun i _ => hk i) hv
    have hfr : ∀ x x' v, frV id es x x' → RepV w A β (hget s.h) x v → RepV w (fun b => A b ∨ (hget s.h id ≠ none ∧ β id = some b)) β (fun i => if i = id then none else hget s.h i) x' v := fun x x' v hf hv => by
      rcases hf with rfl | ⟨off, len, rfl, h1, rfl⟩
      · exact hst x v hv
      · simp only [RepV]
        exact hfz A β a w hc off len v hv h1
    have hfrs : ∀ (x x' : List AV) (v : List Value), frVs id es x x' → RepVs w A β (hget s.h) x v → RepVs w (fun b => A b ∨ (hget s.h id ≠ none ∧ β id = some b)) β (fun i => if i = id then none else hget s.h i) x' v := by
      intro x
      induction x with
      | nil =>
        intro x' v hf hv
        cases x' with
        | nil => simpa only [RepVs] using hv
        | cons _ _ => simp only [frVs] at hf
      | cons y r ih =>
        intro x' v hf hv
        cases x' with
        | nil => simp only [frVs] at hf
        | cons y' r' =>
          simp only [RepVs] at hv ⊢
          obtain ⟨u, t, rfl, h1, h2⟩ := hv
          exact ⟨u, t, rfl, hfr _ _ _ hf.1 h1, ih _ _ hf.2 h2⟩
    obtain ⟨g3, g4⟩ := hc.recast g1 (E' := eget e') (H2 := hget h') (fun t v hv => by
        rcases frE_get hE t with h3 | h3
        · rw [h3]; simp only [RepV]
        · exact hfr _ _ v h3 hv)
      (fun i cs' hi => by
        rcases frH_get hH i with h3 | ⟨hne, h3⟩
        · rw [h3] at hi; cases hi
        · rw [hi] at h3
          cases ho : hget s.h i with
          | none => rw [ho] at h3; simp [frO] at h3
          | some o =>
            rw [ho] at h3
            cases o with
            | arr _ _ _ => simp [frO] at h3
            | pre _ => simp [frO] at h3
            | box cs =>
              simp only [frO] at h3
              exact ⟨cs, rfl, by simp [hne, ho], rfl, fun vs hvs => hfrs _ _ vs h3 hvs⟩)
      (fun i T' sz' es' hi => by
        rcases frH_get hH i with h3 | ⟨hne, h3⟩
        · rw [h3] at hi; cases hi
        · rw [hi] at h3
          simp only [hne, if_false]
          cases ho : hget s.h i with
          | none => rw [ho] at h3; simp [frO] at h3
          | some o =>
            rw [ho] at h3
            cases o with
            | arr _ _ _ => simpa [frO] using h3
            | pre _ => simp [frO] at h3
            | box cs => simp [frO] at h3)
      (fun i ds hi => by
        rcases frH_get hH i with h3 | ⟨hne, h3⟩
        · rw [h3] at hi; cases hi
        · rw [hi] at h3
          simp only [hne, if_false]
          cases ho : hget s.h i with
          | none => rw [ho] at h3; simp [frO] at h3
          | some o =>
            rw [ho] at h3
            cases o with
            | arr _ _ _ => simp [frO] at h3
            | pre _ => simpa [frO] using h3
            | box cs => simp [frO] at h3)
    refine ⟨_, _, g3, g2.comp g4 fun i hi hn => ?_⟩
    rcases frH_get hH i with h3 | ⟨hne, h3⟩
    · exact h3
    · simp only [hne, if_false] at hn
      exact absurd hn hi
  · rcases frH_get hH i with h3 | ⟨hne, h3⟩
    · exact absurd h3 hs
    · rw [hn] at h3
      simp only [frO] at h3
      exact absurd h3.symm hs
theorem Walk.freeze {P n nb R k} {s : St} (id T sz : Nat) (es : List (List D)) (e' : EL) (h' : HL) (ho : hget s.h id = some (.arr T sz es)) (hE : frE id es (eget s.e) e') (hH : frH id es (hget s.h) h')
    (h : Walk P n nb k R ⟨e', h'⟩) : Walk P n nb k R s :=
  Walk.freezeG id es e' h' (fun A β a w hc off len v hv h1 => hc.frozen_rep ho hv h1) hE hH h
theorem Walk.freezeBox {P n nb R k} {s : St} (id : Nat) (ds : List D) (e' : EL) (h' : HL) (ho : hget s.h id = some (.box (ds.map AV.d))) (hE : frE id (ds.map fun d => [d]) (eget s.e) e') (hH : frH id (ds.map fun d => [d]) (hget s.h) h')
    (h : Walk P n nb k R ⟨e', h'⟩) : Walk P n nb k R s :=
  Walk.freezeG id (ds.map fun d => [d]) e' h' (fun A β a w hc off len v hv h1 => hc.frozen_box ho hv (by simpa using Nat.le_of_eq h1)) hE hH h
theorem frVs_set (id : Nat) (es : List (List D)) (x x' : AV) (hx : frV id es x x') : ∀ (cs : List AV) (i : Nat), frVs id es (cs.set i x) (cs.set i x')
  | [], i => by simp [frVs]
  | c :: r, 0 => ⟨hx, frVs_refl id es r⟩
  | c :: r, i + 1 => ⟨.inl rfl, frVs_set id es x x' hx r i⟩
end Go.AX
set_option linter.unusedVariables false
set_option linter.unusedSimpArgs false
namespace Go.AX

theorem RepEs.ofInts {w : World} {A : Nat → Prop} {b : Nat} : ∀ (l : List Int) (o : Nat), (∀ i, i < l.length → w.cell? ⟨b, o + i, none⟩ = some (.int .i64 (l.getD i 0))) → RepEs w A b 1 o (ints l)
  | [], _, _ => by simp only [ints, List.map_nil, RepEs]
  | x :: r, o, h => by
    simp only [ints, List.map_cons, RepEs, RepCs, List.length_cons, List.length_nil, and_true, true_and]
    refine ⟨⟨.int .i64 x, by simpa using h 0 (by simp), by simp only [RepD]; exact ⟨by trivial, trivial⟩⟩, ?_⟩
    exact RepEs.ofInts r (o + 1) fun i hi => by
      have := h (i + 1) (by simpa using hi)
      rw [Nat.add_assoc, Nat.add_comm 1 i]
      simpa using this

/-- A slice of integers that came in, as data. -/
theorem rep_row {w : World} {a : Option Addr} {len cap : Nat} {zs : List Int}
    (h : (a = none ∧ len = 0 ∧ cap = 0 ∧ zs = []) ∨ ∃ x, a = some x ∧ len ≤ cap ∧ cap ≤ maxLen ∧ zs.length = cap ∧ (∀ i, i < zs.length → w.cell? (x.add i) = some (.int .i64 (zs.getD i 0))) ∧ ∀ n ∈ zs, (Lit.int .i64 n).wf = true) :
    RepV w (fun b => b < w.heap.size) (fun _ => none) (hget []) (.d (.sl (ints (zs.take len)))) (.slice a len cap) := by
  simp only [RepV, RepD, ints_len]
  rcases h with ⟨rfl, rfl, rfl, rfl⟩ | ⟨x, rfl, hl, hm, hz, hcell, _⟩
  · exact ⟨none, 0, by simp, by simp, trivial, .inl (by simp [ints])⟩
  · have hlen : (zs.take len).length = len := by simp; omega
    rw [hlen]
    refine ⟨some x, cap, rfl, hl, trivial, ?_⟩
    by_cases h0 : len = 0
    · subst h0; exact .inl (by simp [ints])
    obtain ⟨b, off, spot⟩ := x
    have hc := hcell 0 (by omega)
    have hspot : spot = none := by simpa [Addr.add] using World.cell?_spot hc
    subst hspot
    have hb : b < w.heap.size := World.block_lt_of_cell? w _ hc
    refine .inr ⟨b, off, 1, rfl, hb, RepEs.ofInts _ off fun i hi => ?_⟩
    have := hcell i (by omega)
    have e : (⟨b, off, none⟩ : Addr).add i = ⟨b, off + i, none⟩ := by
      simp only [Addr.add]
      split
      · rename_i h; subst h; rfl
      · rfl
    rw [e] at this
    rw [this]
    rw [hlen] at hi
    congr 2
    simp [hi]

theorem RepVs.nil' {w A β H} : RepVs w A β H [] [] := by simp only [RepVs]
theorem RepVs.cons' {w A β H x v xs vs} (h : RepV w A β H x v) (t : RepVs w A β H xs vs) : RepVs w A β H (x :: xs) (v :: vs) := by
  simp only [RepVs]; exact ⟨_, _, rfl, h, t⟩

theorem law_walk {P : Program} {f : FuncId} {args : List AV} {w : World} {vs : Array Value} (hc : ACalls P f args [] (.d (.bool true)) []) (hv : RepVs w (fun b => b < w.heap.size) (fun _ => none) (hget []) args vs.toList) :
    Calls P f vs w fun e w' => e = .returned (.bool true) ∧ Go.RowKit.Below w.heap.size w w' := by
  refine Calls.mono (hc.2 _ _ w vs hv ⟨fun id cs h => by simp [hget] at h, fun id T sz es h => by simp [hget] at h, fun i j b h => by simp [hget] at h, fun i b h => by simp [hget] at h, fun _ h => h, fun id ds h => by simp [hget] at h⟩) fun e w' => ?_
  rintro ⟨v, A', β', rfl, h1, _, h3⟩
  simp only [RepV, RepD] at h1
  subst h1
  exact ⟨rfl, h3.os, h3.tape, h3.output, h3.size, fun b hb => h3.same b hb fun i hi => by simp [hget] at hi⟩
end Go.AX
