import Derived.Test.YtmggphnhfegffaaAxT
set_option linter.unusedVariables false
set_option linter.unusedSimpArgs false
namespace Go.AX

theorem ordOk_spec {full : List Oper} {lg : List Ent} (h : ordOk full lg = true) {i : Nat} {oi : Oper} {ei : Ent} (ho : full[i]? = some oi) (he : lg[i]? = some ei) :
    (∀ e ∈ oi.after, Region.binds .any e = true → e.on < i) ∧ ∀ (j : Nat) (oj : Oper) (ej : Ent), full[j]? = some oj → lg[j]? = some ej → pairOk full (Region.before full.toArray) i j oi oj ei ej = true := by
  have mem : ∀ (k : Nat) (o : Oper) (e : Ent), full[k]? = some o → lg[k]? = some e → ((o, e), k) ∈ (full.zip lg).zipIdx := fun k o e h1 h2 => by
    rw [List.mem_zipIdx_iff_getElem?]
    simp [List.getElem?_zip_eq_some, h1, h2]
  unfold ordOk at h
  rw [List.all_eq_true] at h
  have h1 := h _ (mem i oi ei ho he)
  simp only [Bool.and_eq_true, List.all_eq_true, Array.all_eq_true_iff_forall_mem, Bool.or_eq_true, Bool.not_eq_true', decide_eq_true_eq] at h1
  refine ⟨fun e hm hb => (h1.1 e hm).resolve_left (by simp [hb]), fun j oj ej hj hej => h1.2 _ (mem j oj ej hj hej)⟩

theorem meet_of {a b : List Nat} {x : Nat} (h1 : x ∈ a) (h2 : x ∈ b) : meet a b = true := by
  unfold meet; rw [List.any_eq_true]; exact ⟨x, h1, by simpa using h2⟩

theorem newOk_get {s : St} : ∀ {lg : List Ent}, newOk s lg → ∀ (i : Nat) (e : Ent), lg[i]? = some e → ∀ x ∈ e.n, freshE x s.e ∧ freshH x s.h
  | [], _, i, e, h => by simp at h
  | a :: r, hn, 0, e, h => by simp at h; subst h; exact hn.1
  | a :: r, hn, i + 1, e, h => newOk_get hn.2 i e (by simpa using h)

theorem slot_mem {full : List Oper} {o : Oper} {t : Nat} (h : Operand.tmp t ∈ o.op.operands) : t ∈ opSlots full o := by
  unfold opSlots
  refine List.mem_append.2 (.inl (List.mem_filterMap.2 ⟨.tmp t, by simpa using h, rfl⟩))
theorem guard_mem {full : List Oper} {o : Oper} {j t : Nat} {w : Bool} (h : o.guard = some (j, w)) (hs : gslot full j = some t) : t ∈ opSlots full o := by
  unfold opSlots
  rw [h]
  simp only [hs, Option.toList_some]
  exact List.mem_append.2 (.inr (by simp))

/-- THE REGION, IN WHATEVER ORDER. -/
theorem drawn_any {P n nb} {full : List Oper} {B : Base} (hB : B.ok nb) {s : St} {ρ : Nat → Rec} {es : List Ent} {Q : Exit → Act → World → Prop} (hlen : es.length = full.length)
    (hrec : ∀ i o, full[i]? = some o → RecOk P n nb full o (stp s full ρ (fun _ => true) i).1 (stp s full ρ (fun _ => true) i).2 (ρ i) ∧ es[i]? = some (entOf (stp s full ρ (fun _ => true) i).2 (ρ i)))
    (hord : ordOk full es = true) (hnew : newOk s es)
    (hQ : ∀ a w, Cf n B (stp s full ρ (fun _ => true) full.length).1 (stp s full ρ (fun _ => true) full.length).2 a w → Q .normal a w) :
    ∀ (fuel : Nat) (listed : Array Bool) (a : Act) (w : World), listed.size = full.length → listed.toList.countP (fun b => !b) = fuel →
      (∀ i o, full[i]? = some o → listed.getD i false = true → ∀ e ∈ o.after, Region.binds .any e = true → listed.getD e.on false = true) →
      Cf n B (stp s full ρ (fun i => listed.getD i false) full.length).1 (stp s full ρ (fun i => listed.getD i false) full.length).2 a w →
      wpAny P .any full.toArray Q fuel listed a w := by
  have nextready : ∀ (listed : Array Bool), listed.size = full.length → Region.ready .any full.toArray listed = [] → ∀ i, i < full.length → listed.getD i false = true := by
    intro listed hsz hr i
    induction i using Nat.strongRecOn with
    | _ i ih =>
      intro hi
      cases hli : listed.getD i false with
      | true => rfl
      | false =>
        have ho : full[i]? = some full[i] := by simp [hi]
        obtain ⟨_, hek⟩ := hrec i _ ho
        have hpre := (ordOk_spec hord ho hek).1
        have : i ∈ Region.ready .any full.toArray listed := by
          rw [mem_ready]
          refine ⟨?_, full[i], by rw [List.getElem?_toArray]; exact ho, fun e he hb => ih e.on (hpre e he hb) (by have := hpre e he hb; omega)⟩
          rw [Array.getD_eq_getD_getElem?] at hli ⊢
          have : i < listed.size := by omega
          simp only [this, getElem?_pos, Option.getD_some] at hli ⊢
          exact hli
        rw [hr] at this
        cases this
  intro fuel
  induction fuel with
  | zero =>
    intro listed a w hsz hcnt hcl hc
    have hall : ∀ i, i < full.length → listed.getD i false = true := fun i hi => by
      rw [List.countP_eq_zero] at hcnt
      have hli : i < listed.size := by omega
      have := hcnt listed[i] (by simp)
      rw [Array.getD_eq_getD_getElem?]
      simpa [hli] using this
    refine ⟨?_, hQ a w ?_⟩
    · cases hr : Region.ready .any full.toArray listed with
      | nil => rfl
      | cons x r =>
        have hx : x ∈ Region.ready .any full.toArray listed := by rw [hr]; simp
        rw [mem_ready] at hx
        obtain ⟨h1, o, ho, _⟩ := hx
        rw [List.getElem?_toArray] at ho
        have hlt : x < full.length := (List.getElem?_eq_some_iff.1 ho).1
        have := hall x hlt
        rw [Array.getD_eq_getD_getElem?] at this h1
        have hli : x < listed.size := by omega
        simp only [hli, getElem?_pos, Option.getD_some] at this h1
        rw [this] at h1; cases h1
    · have e1 : (stp s full ρ (fun i => listed.getD i false) full.length).1 = (stp s full ρ (fun _ => true) full.length).1 := by
        funext t; exact stp_E _ fun j hj _ => hall j hj
      have e2 : (stp s full ρ (fun i => listed.getD i false) full.length).2 = (stp s full ρ (fun _ => true) full.length).2 := by
        funext t; exact stp_H _ fun j hj _ => hall j hj
      rwa [e1, e2] at hc
  | succ fuel ih =>
    intro listed a w hsz hcnt hcl hc
    refine ⟨fun hr => ?_, fun i hi => ?_⟩
    · exfalso
      have hall := nextready listed hsz hr
      have : listed.toList.countP (fun b => !b) = 0 := by
        rw [List.countP_eq_zero]
        intro b hb
        obtain ⟨i, hi, rfl⟩ := List.getElem_of_mem hb
        have hi' : i < listed.size := by simpa using hi
        have := hall i (by omega)
        rw [Array.getD_eq_getD_getElem?] at this
        simpa [hi'] using this
      omega
    · rw [mem_ready] at hi
      obtain ⟨hun, o, ho, hpreds⟩ := hi
      rw [List.getElem?_toArray] at ho
      have hin : i < full.length := (List.getElem?_eq_some_iff.1 ho).1
      have hil : i < listed.size := by omega
      have hnot : listed.getD i false = false := by
        rw [Array.getD_eq_getD_getElem?] at hun ⊢
        simpa [hil] using hun
      obtain ⟨hok, hek⟩ := hrec i o ho
      -- what is done is closed, and a pair that meets is ordered
      have hbef := testBit_before full.toArray (fun k => listed.getD k false) fun k o' ho' hk e he hb => hcl k o' (by rwa [List.getElem?_toArray] at ho') hk e he hb
      have hbef' := testBit_before full.toArray (fun k => listed.getD k false || k == i) fun k o' ho' hk e he hb => by
        rw [List.getElem?_toArray] at ho'
        simp only [Bool.or_eq_true, beq_iff_eq] at hk ⊢
        rcases hk with hk | hk
        · exact .inl (hcl k o' ho' hk e he hb)
        · subst hk
          rw [ho] at ho'; cases ho'
          exact .inl (hpreds e he hb)
      have ord : ∀ j oj, full[j]? = some oj → j ≠ i → ordered (Region.before full.toArray) i j = true → (listed.getD j false = decide (j < i)) := by
        intro j oj hj hne h
        unfold ordered at h
        by_cases hji : j < i
        · rw [if_pos hji] at h
          have := hbef' i j h (by simp)
          simp only [Bool.or_eq_true, beq_iff_eq] at this
          rcases this with h1 | h1
          · rw [h1]; simp [hji]
          · exact absurd h1 hne
        · rw [if_neg hji] at h
          cases hlj : listed.getD j false with
          | true =>
            have := hbef j i h hlj
            rw [hnot] at this; cases this
          | false => simp [hji]
      have pr : ∀ j oj, full[j]? = some oj → j ≠ i → pairOk full (Region.before full.toArray) i j o oj (entOf (stp s full ρ (fun _ => true) i).2 (ρ i)) (entOf (stp s full ρ (fun _ => true) j).2 (ρ j)) = true := fun j oj hj _ =>
        (ordOk_spec hord ho hek).2 j oj _ hj (hrec j oj hj).2
      -- a slot that the operation looks at or writes
      have slotw : ∀ t, (t ∈ opSlots full o ∨ o.dst = some t) → ∀ j, j < full.length → j ≠ i → (full[j]?).bind (·.dst) = some t → listed.getD j false = decide (j < i) := by
        intro t ht j hj hne hd
        obtain ⟨oj, hoj⟩ : ∃ oj, full[j]? = some oj := ⟨full[j], by simp [hj]⟩
        rw [hoj] at hd
        simp only [Option.bind_some] at hd
        have := pr j oj hoj hne
        unfold pairOk at this
        have hij : ¬ i = j := fun e => hne e.symm
        simp only [hij, beq_iff_eq, Bool.or_eq_true, false_or, Bool.and_eq_true, Bool.not_eq_true', hd] at this
        rcases this.1 with h1 | h1
        · exfalso
          simp only [Bool.or_eq_false_iff, Bool.and_eq_false_iff] at h1
          rcases ht with ht | ht
          · have := h1.1.1.1
            simp [ht] at this
          · have := h1.1.1.2
            simp [ht] at this
        · exact ord j oj hoj hne h1
      have heapw : ∀ x, x ∈ (entOf (stp s full ρ (fun _ => true) i).2 (ρ i)).t → ∀ j, j < full.length → j ≠ i → x ∈ (ρ j).u.map (·.1) → listed.getD j false = decide (j < i) := by
        intro x hx j hj hne hd
        obtain ⟨oj, hoj⟩ : ∃ oj, full[j]? = some oj := ⟨full[j], by simp [hj]⟩
        have := pr j oj hoj hne
        unfold pairOk at this
        have hij : ¬ i = j := fun e => hne e.symm
        simp only [hij, beq_iff_eq, Bool.or_eq_true, false_or, Bool.and_eq_true, Bool.not_eq_true'] at this
        rcases this.1 with h1 | h1
        · exfalso
          simp only [Bool.or_eq_false_iff] at h1
          have h2 : meet (entOf (stp s full ρ (fun _ => true) j).2 (ρ j)).w (entOf (stp s full ρ (fun _ => true) i).2 (ρ i)).t = true := meet_of (x := x) (by simp only [entOf]; exact hd) hx
          rw [h1.1.2] at h2; cases h2
        · exact ord j oj hoj hne h1
      have allw : (ρ i).all = true → ∀ j, j < full.length → j ≠ i → (ρ j).u ≠ [] → listed.getD j false = decide (j < i) := by
        intro ha j hj hne hd
        obtain ⟨oj, hoj⟩ : ∃ oj, full[j]? = some oj := ⟨full[j], by simp [hj]⟩
        have := pr j oj hoj hne
        unfold pairOk at this
        have hij : ¬ i = j := fun e => hne e.symm
        simp only [hij, beq_iff_eq, Bool.or_eq_true, false_or, Bool.and_eq_true, Bool.not_eq_true'] at this
        rcases this.1 with h1 | h1
        · exfalso
          simp only [Bool.or_eq_false_iff, Bool.and_eq_false_iff] at h1
          have h2 := h1.2
          simp [entOf, ha, hd] at h2
        · exact ord j oj hoj hne h1
      have neww : ∀ x, x ∈ (entOf (stp s full ρ (fun _ => true) i).2 (ρ i)).n → ∀ j, j < full.length → j ≠ i → x ∈ (entOf (stp s full ρ (fun _ => true) j).2 (ρ j)).t ++ (entOf (stp s full ρ (fun _ => true) j).2 (ρ j)).m → listed.getD j false = false := by
        intro x hx j hj hne hd
        obtain ⟨oj, hoj⟩ : ∃ oj, full[j]? = some oj := ⟨full[j], by simp [hj]⟩
        have := pr j oj hoj hne
        unfold pairOk at this
        have hij : ¬ i = j := fun e => hne e.symm
        simp only [hij, beq_iff_eq, Bool.or_eq_true, false_or, Bool.and_eq_true, Bool.not_eq_true', decide_eq_true_eq] at this
        rcases this.2 with h1 | ⟨h1, h2⟩
        · rw [meet_of hx hd] at h1; cases h1
        · cases hlj : listed.getD j false with
          | false => rfl
          | true => have := hbef j i h2 hlj; rw [hnot] at this; cases this
      -- the canonical state at i, with what comes after left out
      have stp0 : ∀ m, i ≤ m → stp s full ρ (fun j => decide (j < i)) m = stp s full ρ (fun _ => true) i := by
        intro m hm
        obtain ⟨d, rfl⟩ : ∃ d, m = i + d := ⟨m - i, by omega⟩
        clear hm
        induction d with
        | zero =>
          have : ∀ k, k ≤ i → stp s full ρ (fun j => decide (j < i)) k = stp s full ρ (fun _ => true) k := by
            intro k
            induction k with
            | zero => intro _; rfl
            | succ k ihk =>
              intro hk
              have hlt : k < i := by omega
              simp only [stp, ihk (by omega), hlt, decide_true, if_true]
          exact this i (Nat.le_refl _)
        | succ d ihd =>
          rw [← Nat.add_assoc]
          have hlt : ¬ (i + d < i) := by omega
          simp only [stp, hlt, decide_false, Bool.false_eq_true, if_false]
          exact ihd
      have stp1 := stp0 full.length (by omega)
      have agE : ∀ t, t ∈ opSlots full o → (stp s full ρ (fun k => listed.getD k false) full.length).1 t = (stp s full ρ (fun _ => true) i).1 t := by
        intro t ht
        rw [← stp1]
        refine stp_E _ fun j hj hd => ?_
        by_cases e : j = i
        · subst e; simp only [hnot, Nat.lt_irrefl, decide_false]
        · exact slotw t (.inl ht) j hj e hd
      have agH : ∀ x, x ∈ (entOf (stp s full ρ (fun _ => true) i).2 (ρ i)).t → (stp s full ρ (fun k => listed.getD k false) full.length).2 x = (stp s full ρ (fun _ => true) i).2 x := by
        intro x hx
        rw [← stp1]
        refine stp_H _ fun j hj hd => ?_
        by_cases e : j = i
        · subst e; simp only [hnot, Nat.lt_irrefl, decide_false]
        · exact heapw x hx j hj e hd
      have agA : (ρ i).all = true → (stp s full ρ (fun k => listed.getD k false) full.length).2 = (stp s full ρ (fun _ => true) i).2 := by
        intro ha
        funext x
        rw [← stp1]
        refine stp_H _ fun j hj hd => ?_
        by_cases e : j = i
        · subst e; simp only [hnot, Nat.lt_irrefl, decide_false]
        · exact allw ha j hj e (by intro h0; rw [h0] at hd; simp at hd)
      have hL' : ∀ k, (listed.setIfInBounds i true).getD k false = (listed.getD k false || k == i) := by
        intro k
        rw [Array.getD_eq_getD_getElem?, Array.getD_eq_getD_getElem?, Array.getElem?_setIfInBounds]
        by_cases e : i = k
        · subst e; simp [hil]
        · simp only [e, if_false]
          have : (k == i) = false := by simpa using fun h => e h.symm
          rw [this, Bool.or_false]
      have hodst : (full[i]?).bind (·.dst) = o.dst := by rw [ho]; rfl
      have newE : putE (stp s full ρ (fun k => listed.getD k false) full.length).1 o.dst (ρ i).r = (stp s full ρ (fun k => (listed.setIfInBounds i true).getD k false) full.length).1 := by
        funext t
        by_cases hd : o.dst = some t
        · rw [stp_E_last (i := i) (t := t) (by rw [hL' i]; simp) (by rw [hodst]; exact hd) full.length hin fun j h1 h2 h3 => ?_]
          · rw [hd]; simp only [putE, if_true]
          · rw [hL' j, slotw t (.inr hd) j h2 (by omega) h3]
            simp only [Bool.or_eq_false_iff, decide_eq_false_iff_not, beq_eq_false_iff_ne]
            omega
        · have : putE (stp s full ρ (fun k => listed.getD k false) full.length).1 o.dst (ρ i).r t = (stp s full ρ (fun k => listed.getD k false) full.length).1 t := by
            cases hx : o.dst with
            | none => rfl
            | some d => simp only [putE]; rw [if_neg]; rintro rfl; exact hd hx
          rw [this]
          refine stp_E _ fun j hj hdj => ?_
          rw [hL' j]
          have hne : j ≠ i := by rintro rfl; rw [hodst] at hdj; exact hd hdj
          have : (j == i) = false := by simpa using hne
          rw [this, Bool.or_false]
      have newH : updF (stp s full ρ (fun k => listed.getD k false) full.length).2 (ρ i).u = (stp s full ρ (fun k => (listed.setIfInBounds i true).getD k false) full.length).2 := by
        funext x
        rw [updF_get]
        by_cases hd : x ∈ (ρ i).u.map (·.1)
        · rw [if_pos hd, stp_H_last (i := i) (id := x) (by rw [hL' i]; simp) hd full.length hin fun j h1 h2 h3 => ?_]
          rw [hL' j, heapw x (by simp only [entOf, List.mem_append]; exact .inr hd) j h2 (by omega) h3]
          simp only [Bool.or_eq_false_iff, decide_eq_false_iff_not, beq_eq_false_iff_ne]
          omega
        · rw [if_neg hd]
          refine stp_H _ fun j hj hdj => ?_
          rw [hL' j]
          have hne : j ≠ i := by rintro rfl; exact hd hdj
          have : (j == i) = false := by simpa using hne
          rw [this, Bool.or_false]
      have next : ∀ a' w', Cf n B (putE (stp s full ρ (fun k => listed.getD k false) full.length).1 o.dst (ρ i).r) (updF (stp s full ρ (fun k => listed.getD k false) full.length).2 (ρ i).u) a' w' → wpAny P .any full.toArray Q fuel (listed.setIfInBounds i true) a' w' := by
        intro a' w' hc'
        rw [newE, newH] at hc'
        refine ih _ a' w' (by simp [hsz]) ?_ ?_ hc'
        · have hg : listed[i] = false := by
            rw [Array.getD_eq_getD_getElem?] at hnot
            simpa [hil] using hnot
          rw [Array.toList_setIfInBounds, List.countP_set (by simpa using hil)]
          simp only [Array.getElem_toList, hg, Bool.not_false, Bool.not_true, if_true, Bool.false_eq_true, if_false]
          omega
        · intro k ok hk hkl e he hb
          rw [hL' k] at hkl
          rw [hL' e.on]
          simp only [Bool.or_eq_true, beq_iff_eq] at hkl ⊢
          rcases hkl with hkl | hkl
          · exact .inl (hcl k ok hk hkl e he hb)
          · subst hkl
            rw [ho] at hk; cases hk
            exact .inl (hpreds e he hb)
      obtain ⟨hdst, hnb, hrest⟩ := hok
      unfold wpOp
      simp only [List.getElem?_toArray, ho]
      obtain ⟨A, β, hcf, htr⟩ := hc
      by_cases hsk : (ρ i).skip = true
      · rw [if_pos hsk] at hrest
        obtain ⟨hr, hu, j, want, t, hg, hgs, hE⟩ := hrest
        have hw : Region.wanted o (yielded full.toArray a.tmps) = false := by
          rcases hE with hE | ⟨g, hE, hne⟩
          · have hy := guard_undef hcf hgs (by rw [agE t (guard_mem hg hgs)]; exact hE)
            simp only [Region.wanted, hg, hy]; rfl
          · have hy := guard_val hcf hgs (by rw [agE t (guard_mem hg hgs)]; exact hE)
            simp only [Region.wanted, hg, hy]
            simpa using hne
        rw [hw]
        simp only [Bool.false_eq_true, if_false]
        refine next _ w ?_
        rw [hr, hu, show updF (stp s full ρ (fun k => listed.getD k false) full.length).2 [] = (stp s full ρ (fun k => listed.getD k false) full.length).2 from rfl]
        exact ⟨A, β, hcf.put (fun d hd => by rw [hd] at hdst; exact hdst) (by simp only [RepV]; exact ⟨#[], rfl, by simp [RepVs]⟩), htr⟩
      · rw [if_neg hsk] at hrest
        obtain ⟨hls, hg⟩ := hrest
        have hw : Region.wanted o (yielded full.toArray a.tmps) = true := by
          rcases hg with hg | ⟨j, want, t, hg, hgs, hE⟩
          · simp [Region.wanted, hg]
          · have hy := guard_val hcf hgs (by rw [agE t (guard_mem hg hgs)]; exact hE)
            simp only [Region.wanted, hg, hy]
            simp
        rw [hw]
        simp only [if_true]
        have hone : ∀ x, x ∈ (ρ i).u.map (·.1) → (stp s full ρ (fun k => listed.getD k false) full.length).2 x = (stp s full ρ (fun _ => true) i).2 x := fun x hx =>
          agH x (by simp only [entOf, List.mem_append]; exact .inr hx)
        have hsem := hls (stp s full ρ (fun k => listed.getD k false) full.length).1 (stp s full ρ (fun k => listed.getD k false) full.length).2 (fun x hx => by
            cases x with
            | tmp t => exact agE t (slot_mem hx)
            | const v => rfl
            | global g => rfl
            | func f => rfl) agA (fun x hx => agH x (by simp only [entOf, List.mem_append]; exact .inl hx)) fun x y hm hn => by
          have hxm : x ∈ (ρ i).u.map (·.1) := List.mem_map.2 ⟨(x, some y), hm, rfl⟩
          have hcn : (stp s full ρ (fun _ => true) i).2 x = none := by rw [← hone x hxm]; exact hn
          have hxn : x ∈ (entOf (stp s full ρ (fun _ => true) i).2 (ρ i)).n := newIds_mem hm hcn
          obtain ⟨f1, f2⟩ := newOk_get hnew i _ hek x hxn
          have notdone : ∀ j, j < full.length → listed.getD j false = true → x ∈ (entOf (stp s full ρ (fun _ => true) j).2 (ρ j)).t ++ (entOf (stp s full ρ (fun _ => true) j).2 (ρ j)).m → False := fun j hj hdj hx => by
            have := neww x hxn j hj (by rintro rfl; rw [hnot] at hdj; cases hdj) hx
            rw [hdj] at this; cases this
          refine ⟨hn, fun t => ?_, fun j oj hj => ?_⟩
          · rcases stp_E_from (s := s) (full := full) (ρ := ρ) (done := fun k => listed.getD k false) (t := t) full.length with h1 | ⟨j, h1, h2, h3⟩
            · rw [h1]; exact freshE_get f1 t
            · rw [h3]
              intro hx
              exact notdone j h1 h2 (by simp only [entOf, List.mem_append]; exact .inr (.inl hx))
          · rcases stp_H_from (s := s) (full := full) (ρ := ρ) (done := fun k => listed.getD k false) (i := j) full.length with h1 | ⟨k, h1, h2, h3⟩
            · rw [h1] at hj
              exact (freshH_get f2).2 j oj hj
            · rw [h3] at hj
              intro hx
              exact notdone k h1 h2 (by simp only [entOf, List.mem_append]; exact .inr (.inr (updIds_get hj x hx)))
        refine .inl (hsem.on (nb := nb) (fun x hn hu => ?_) hB ⟨A, β, hcf, htr⟩ next)
        obtain ⟨y, hy⟩ := updF_new hn hu
        have hxm : x ∈ (ρ i).u.map (·.1) := List.mem_map.2 ⟨(x, some y), hy, rfl⟩
        exact hnb x y hy (by rw [← hone x hxm]; exact hn)
end Go.AX
