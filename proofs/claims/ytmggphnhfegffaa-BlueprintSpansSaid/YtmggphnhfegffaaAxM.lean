import Derived.Test.YtmggphnhfegffaaAxL
set_option linter.unusedVariables false
set_option linter.unusedSimpArgs false
namespace Go.AX

theorem OSem.skip {P n o E H u} (hd : ∀ d, o.dst = some d → d < n)
    (h : ∀ A β a w, CfgF n A β E H a w → ∃ w' A' β', (execOp a.eval o).run P w = .ok .skip w' ∧ CfgF n A' β' E (updF H u) a w' ∧ Trans w A β H w' A' β' (updF H u)) : OSem P n o E H .any u := by
  intro A β a w hc
  obtain ⟨w', A', β', hv, hc', ht⟩ := h A β a w hc
  simp only [Oper.wp, hv, Oper.upon]
  exact ⟨A', β', hc'.put hd (by simp only [RepV]), ht⟩

def AV.ok2 (H : HF) : AV → Prop
  | .agg _ => False
  | x => x.ok1 H
def okL (H : HF) : List AV → Prop
  | [] => True
  | x :: r => x.ok2 H ∧ okL H r

theorem ok2_one {w A β H} {x : AV} {v : Value} (h : RepV w A β H x v) (h1 : x.ok2 H) : v.oneCell' = true := by
  cases x with
  | any => exact h1.elim
  | tup _ => exact h1.elim
  | agg cs => exact h1.elim
  | d x => simp only [RepV] at h; exact RepD.oneCell h
  | nils => simp only [RepV] at h; obtain ⟨a, rfl⟩ := h; rfl
  | nilp => simp only [RepV] at h; subst h; rfl
  | ref cs => simp only [RepV] at h; obtain ⟨b, o, rfl, _⟩ := h; rfl
  | box id o =>
    obtain ⟨cs, ho⟩ := liveBox_of h1
    simp only [RepV, ho] at h
    obtain ⟨b, _, rfl⟩ := h; rfl
  | elt id i o m =>
    obtain ⟨T, sz, es, ho, hm⟩ := liveArr_of h1
    simp only [RepV, ho] at h
    obtain ⟨b, _, rfl⟩ := h.2 hm.symm; rfl
  | arr id o m =>
    obtain ⟨T, sz, es, ho⟩ := isArr_of h1
    simp only [RepV, ho] at h
    obtain ⟨⟨ad, cap, rfl, _⟩, _⟩ := h; rfl
  | fn f caps => simp only [RepV] at h; obtain ⟨cs, rfl, _⟩ := h; rfl

theorem okL_one {w A β H} : ∀ {xs : List AV} {vs : List Value}, RepVs w A β H xs vs → okL H xs → ∀ v ∈ vs, v.oneCell' = true
  | [], vs, h, _, v, hv => by simp only [RepVs] at h; rw [h] at hv; simp at hv
  | x :: r, vs, h, k, v, hv => by
    simp only [RepVs] at h
    obtain ⟨u, t, rfl, hx, h⟩ := h
    rcases List.mem_cons.1 hv with rfl | hv
    · exact ok2_one hx k.1
    · exact okL_one h k.2 v hv

def aStore (P : Program) (t : Nat) (x y : AV) (H : HF) : Out :=
  match x with
  | .box id o => match H id with
    | some (.box cs) => ⟨y.ok1 H ∧ okL H y.cells ∧ y.cells.length = (mkTI P t).size ∧ (mkTI P t).size ≠ 0 ∧ o + y.cells.length ≤ cs.length, .any, [(id, some (.box (splice cs o y.cells)))]⟩
    | _ => fail
  | .elt id i o m => match H id with
    | some (.arr T sz es) => ⟨y.ok1 H ∧ y.cells.length = (mkTI P t).size ∧ (mkTI P t).size ≠ 0 ∧ o + y.cells.length ≤ sz ∧ m = es.length ∧ i < es.length ∧ avDps H y.cells ∧ id ∉ y.ids, .any,
        (id, some (.arr T sz (es.set i (splice (es.getD i []) o (y.cells.map (avD H)))))) :: y.ids.map fun j => (j, none)⟩
    | _ => fail
  | _ => fail

theorem splice_append_left {α : Type} (xs ys zs : List α) (o : Nat) (h : o + zs.length ≤ xs.length) : splice (xs ++ ys) o zs = splice xs o zs ++ ys := by
  unfold splice
  rw [List.take_append_of_le_length (by omega), List.drop_append_of_le_length (by omega), List.append_assoc, List.append_assoc, List.append_assoc]

theorem splice_append_right {α : Type} (xs ys zs : List α) (o : Nat) : splice (xs ++ ys) (xs.length + o) zs = xs ++ splice ys o zs := by
  unfold splice
  rw [List.take_length_add_append, Nat.add_assoc, List.drop_length_add_append]
  simp

theorem splice_length {α : Type} (xs zs : List α) (o : Nat) (h : o + zs.length ≤ xs.length) : (splice xs o zs).length = xs.length := by
  unfold splice; simp; omega

theorem flatten_set_splice (sz : Nat) (zs : List D) : ∀ (es : List (List D)) (i o : Nat), (∀ e ∈ es, e.length = sz) → i < es.length → o + zs.length ≤ sz →
    (es.set i (splice (es.getD i []) o zs)).flatten = splice es.flatten (i * sz + o) zs
  | [], i, o, _, h, _ => by simp at h
  | e :: r, 0, o, hl, _, ho => by
    have he : e.length = sz := hl e (by simp)
    simp only [List.set_cons_zero, List.getD_cons_zero, List.flatten_cons, Nat.zero_mul, Nat.zero_add]
    rw [splice_append_left _ _ _ _ (by omega)]
  | e :: r, i + 1, o, hl, hi, ho => by
    have he : e.length = sz := hl e (by simp)
    have ih := flatten_set_splice sz zs r i o (fun x hx => hl x (by simp [hx])) (by simpa using hi) ho
    simp only [List.set_cons_succ, List.getD_cons_succ, List.flatten_cons, ih]
    rw [show (i + 1) * sz + o = e.length + (i * sz + o) by rw [he, Nat.add_mul]; omega, splice_append_right]

theorem RepDs.splice {w A} {ds zs : List D} {vs us : List Value} {o : Nat} (h : RepDs w A ds vs) (k : RepDs w A zs us) : RepDs w A (splice ds o zs) (splice vs o us) := by
  have h1 : RepVs w A (fun _ => none) (fun _ => none) (ds.map AV.d) vs := RepVs_d.2 h
  have h2 : RepVs w A (fun _ => none) (fun _ => none) (zs.map AV.d) us := RepVs_d.2 k
  have h3 := RepVs.splice (off := o) h1 h2
  rw [← RepVs_d (β := fun _ => none) (H := fun _ => none)]
  unfold AX.splice at *
  simpa using h3

theorem run_storeAt {P : Program} {w : World} {t b o : Nat} {v : Value} {cur : Array Value} {T : TypeId} (hs : (mkTI P t).size ≠ 0) (hv : v.cells.size = (mkTI P t).size)
    (hg : w.heap[b]? = some (.cells cur T (0, 0))) (hl : o + v.cells.size ≤ cur.size) (h1 : ∀ u ∈ v.cells.toList, u.oneCell' = true) :
    (Instr.storeAt t (.pointer (some ⟨b, o, none⟩)) v).run P w = .ok () (w.setRow b (splice cur.toList o v.cells.toList).toArray) := by
  have hst := run_storeCells_at P b o T v.cells.toList 0 cur w hg (by simpa using hl) h1
  simp only [Nat.add_zero] at hst
  simp only [Instr.storeAt, Instr.sureAddr, storeVar, Sem.run_bind, Sem.run_pure, Result.andThen_ok, run_sizeOf hs, hv, ne_eq, not_true_eq_false, if_false, hst]
  rfl

theorem sem_store {P n d t x y tr p e g E H} (hd : ∀ i, d = some i → i < n) (h : (aStore P t (evalA E x) (evalA E y) H).pre) :
    OSem P n ⟨d, .store t x y, tr, p, e, g⟩ E H .any (aStore P t (evalA E x) (evalA E y) H).upd :=
  OSem.skip hd fun A β a w hc => by
    have h2 := hc.eval x
    have h3 := hc.eval y
    generalize evalA E x = X at *
    generalize evalA E y = Y at *
    unfold aStore at h ⊢
    split at h
    · rename_i id o
      split at h
      · rename_i cs ho
        obtain ⟨g1, g2, g3, g4, g5⟩ := h
        have hy := h3.cells g1
        have hyl := hy.length
        simp at hyl
        simp only [RepV, ho] at h2
        obtain ⟨b, hb, e1⟩ := h2
        obtain ⟨b', c, T, hb', hcc, hr⟩ := hc.heap.box id cs ho
        rw [hb] at hb'; cases hb'
        have hrl := hr.length
        simp at hrl
        have hsz : (splice c.toList o (a.eval y).cells.toList).toArray.size = c.size := by
          rw [List.size_toArray, splice_length _ _ _ (by simp; omega)]; simp
        obtain ⟨hc2, ht2⟩ := hc.write ho (.box (splice cs o Y.cells)) (c' := (splice c.toList o (a.eval y).cells.toList).toArray) hb hcc hsz (hr.splice (off := o) hy)
        refine ⟨_, A, β, ?_, by simp only [updF_one]; exact hc2, by simp only [updF_one]; exact ht2⟩
        have hrun := run_storeAt (P := P) (w := w) (t := t) (o := o) (v := a.eval y) g4 (by omega) hcc (by omega) (okL_one hy g2)
        simp only [execOp, e1, hrun, Sem.run_bind, Sem.run_pure, Result.andThen_ok]
      · exact h.elim
    · rename_i id i o m
      split at h
      · rename_i T sz es ho
        obtain ⟨g1, g2, g3, g4, g5, g6, g7, g8⟩ := h
        have hy := h3.cells g1
        have hyl := hy.length
        simp at hyl
        simp only [RepV, ho] at h2
        obtain ⟨b, hb, e1⟩ := h2.2 g5.symm
        obtain ⟨hLB, harr⟩ := hc.heap.arr id T sz es ho
        rcases harr with ⟨hb', _⟩ | ⟨b', cur, hb', hcc, hle, hr⟩
        · rw [hb] at hb'; cases hb'
        rw [hb] at hb'; cases hb'
        obtain ⟨ho2, olds, hol, ho1, hocell⟩ := hr.values
        obtain ⟨hc1, ht1⟩ := hc.freezes Y.ids
        have hd1 := hc.avDs_rep Y.ids hy g7 (by rw [AV.ids_cells]; exact fun i h => h)
        have hda := hd1.oneCell
        have ho1' : RepDs w (fun b => A b ∨ ∃ i ∈ Y.ids, H i ≠ none ∧ β i = some b) es.flatten olds := ho1.stable (fun _ h => .inl h) (fun _ _ => rfl)
        have hid : dead H Y.ids id = some (.arr T sz es) := by simp only [dead, g8, if_false]; exact ho
        have hpos : i * sz + o + (a.eval y).cells.size ≤ es.length * sz := by
          have : (i + 1) * sz ≤ es.length * sz := Nat.mul_le_mul_right _ g6
          rw [Nat.add_mul] at this
          omega
        have hsplit : cur.toList = olds ++ cur.toList.drop (es.length * sz) := by
          conv => lhs; rw [← List.take_append_drop (es.length * sz) cur.toList]
          congr 1
          apply List.ext_getElem?
          intro j
          rw [List.getElem?_take]
          by_cases hj : j < es.length * sz
          · rw [if_pos hj]
            have h8 := hocell j (olds[j]'(by omega)) (by simp)
            rw [Nat.zero_add] at h8
            simp only [World.cell?, hcc, Option.isSome_none, Bool.false_eq_true, if_false] at h8
            rw [Array.getElem?_toList, h8]
            simp
          · rw [if_neg hj, List.getElem?_eq_none (by omega)]
        have hsz : (splice cur.toList (i * sz + o) (a.eval y).cells.toList).toArray.size = cur.size := by
          rw [List.size_toArray, splice_length _ _ _ (by simp; omega)]; simp
        have hel : ∀ e ∈ es.set i (splice (es.getD i []) o (Y.cells.map (avD H))), e.length = sz := fun e he => by
          rcases List.mem_or_eq_of_mem_set he with he | rfl
          · exact ho2 e he
          · have : (es.getD i []).length = sz := ho2 _ (by simp [g6])
            rw [splice_length _ _ _ (by simp only [List.length_map]; omega), this]
        obtain ⟨hc2, ht2⟩ := hc1.write hid (.arr T sz (es.set i (splice (es.getD i []) o (Y.cells.map (avD H))))) (c' := (splice cur.toList (i * sz + o) (a.eval y).cells.toList).toArray) hb hcc hsz
          ⟨rfl, rfl, rfl, by simp, by simpa using hLB, by rw [List.length_set, hsz]; exact hle, hel, splice olds (i * sz + o) (a.eval y).cells.toList, cur.toList.drop (es.length * sz), by
            show splice cur.toList _ _ = _
            conv => lhs; rw [hsplit]
            rw [splice_append_left _ _ _ _ (by simp; omega)], by
            rw [flatten_set_splice sz _ es i o ho2 g6 (by simp only [List.length_map]; omega)]
            exact ho1'.splice hd1⟩
        refine ⟨_, _, β, ?_, by simp only [updF_cons_dead]; exact hc2, ?_⟩
        · have hrun := run_storeAt (P := P) (w := w) (t := t) (o := i * sz + o) (v := a.eval y) g3 (by omega) hcc (by omega) hda
          simp only [execOp, e1, hrun, Sem.run_bind, Sem.run_pure, Result.andThen_ok]
        · simp only [updF_cons_dead]
          refine ht1.comp ht2 fun j h4 h5 => ?_
          by_cases e : j = id
          · subst e; rw [hid] at h5; cases h5
          · simp only [e, if_false]; exact h5
      · exact h.elim
    · exact h.elim
end Go.AX
