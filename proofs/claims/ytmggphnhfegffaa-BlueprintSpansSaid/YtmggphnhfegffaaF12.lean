import Derived.Test.YtmggphnhfegffaaF11
set_option linter.unusedVariables false
set_option linter.unusedSimpArgs false
set_option maxRecDepth 4000
set_option maxHeartbeats 4000000
namespace Go.AX
open Go.Proofs
attribute [local go_sem] V1_none V1_some V_nil V_move V_assign V_pick V_bin V_un V_extract V_makeFunc V_convert V_nilCheck V_fieldAddr V_field V_load V_store V_indexAddr V_index V_slice V_slice0 V_alloc V_box V_build V_buildSlice V_makeSlice V_len V_min V_max V_append V_call V_guard VGs_some VG_tt VG_ff VG_tf VG_ft VG_u gslot ok fail po so aNew dstOk freshU addLog_none' addLog_some' St.step putL evalA eget hget argE freshE freshO freshH AV.ids AV.idsL AV.ok1 AV.cells ids_box ids_arr liveBox liveArr isArr aPick aBin aUn aExtract aMakeFunc aConvert aNilCheck aFieldAddr aField cut aLen aIndexAddr aMin aMax aIndex bnd isInt aSlice aSlice0 aLoad aAlloc aBox aStore splice aMake updIds newIds zv_i64 zv_u8 zv_bool zv_nils zv_nilp cond_bool cond_int TI.isAgg TK.isSl TK.el okL avDps avDp avD List.map_cons List.map_nil List.append_nil List.nil_append List.cons_append List.length_cons List.length_nil List.take_succ_cons List.take_zero List.drop_succ_cons List.drop_zero List.take_nil List.drop_nil List.headD_cons List.getD_cons_zero List.getD_cons_succ List.mem_cons List.not_mem_nil List.getElem?_cons_zero List.getElem?_cons_succ List.toList_toArray Option.getD_some Option.getD_none Option.bind_some Option.bind_none Option.map_some Option.map_none Option.getD Option.toList Nat.zero_add Nat.add_zero Nat.zero_le Nat.le_refl if_true if_false ite_self true_and and_true false_and and_false true_or or_true false_or or_false not_true_eq_false not_false_eq_true ne_eq cond_true cond_false Bool.true_eq_false Bool.false_eq_true forall_const decide_true decide_false implies_true true_implies and_self or_self Nat.succ_ne_zero ints_len Int.toNat_natCast Int.ofNat_lt Int.ofNat_le Int.natCast_nonneg List.length_map decide_eq_true_eq AV.views AV.view AV.viewPs AV.viewP arrsOnly newNames List.length_append List.append_assoc Bool.not_true Bool.not_false AV.ok2 Int.ofNat_inj aBuild fillR fillP aBuildSlice dense elP aAppend esOf esOfP List.forall_mem_cons forall_eq_or_imp forall_eq zD zDp ti2 ti3 ti4 ti5 ti6 ti7 ti8 ti9 ti10 ti11 ti12 ti13 ti14 ti15 ti16 ti17 ti18 ti19 ti21 ti22 ti23 ti25 ti26 ti27 ti31 ti32 ti41 ti51 ti52 ti53 ti54 ti56 ti58 ti60 ti61 ti62 ti67 ti68 ti71 ti72 ti79 ti80 ti81 ti82 ti83 ti84 ti85 ti89 ti93 ti94 ti95 ti110 ti124 ti125 ti126 ti127 ti128 ti129 ti130 ti131 ti133 ti134 ti135 ti136 ti137

def coefS (x : Int) : Bool := decide (x ≥ -10000) && decide (x ≤ 10000)
theorem c48 (x : Int) : ACalls Try.prog 48 [.d (.int .i64 x)] [] (.d (.bool (coefS x))) [] := by
  refine ACalls.of_sem (n := 9) 0 [2] (fn := Try.f48) Try.func48 rfl rfl (.one rfl) rfl (by simp) (by simp [hget]) ?_
  (repeat with_reducible first | refine Walk.seq ?_ | refine Walk.block ?_ | refine Walk.skip ?_ | refine Walk.inBlock ?_ | refine Walk.label ?_ | refine Walk.scope ?_ | refine Walk.inScope ?_ | refine Walk.exit rfl ?_)
  refine Walk.region' rfl fun K hK => ?_
  simp only [go_sem, rows_len, Nat.reduceAdd, Nat.reduceMul, Nat.reduceSub, Nat.reduceLT, Nat.reduceLeDiff, Nat.reduceEqDiff, Nat.reduceBEq, Int.reduceToNat, Int.reduceLT, Int.reduceLE, Int.reduceEq, Int.reduceNeg, reduceIte, reduceCtorEq]
  refine hK _ ?_
  clear hK K
  (repeat with_reducible first | refine Walk.seq ?_ | refine Walk.block ?_ | refine Walk.skip ?_ | refine Walk.inBlock ?_ | refine Walk.label ?_ | refine Walk.scope ?_ | refine Walk.inScope ?_ | refine Walk.exit rfl ?_)
  refine Walk.region' rfl fun K hK => ?_
  simp only [go_sem, rows_len, Nat.reduceAdd, Nat.reduceMul, Nat.reduceSub, Nat.reduceLT, Nat.reduceLeDiff, Nat.reduceEqDiff, Nat.reduceBEq, Int.reduceToNat, Int.reduceLT, Int.reduceLE, Int.reduceEq, Int.reduceNeg, reduceIte, reduceCtorEq]
  refine VGd_cases (fun h1 => ?_) (fun h1 => ?_)
  · simp only [go_sem, rows_len, Nat.reduceAdd, Nat.reduceMul, Nat.reduceSub, Nat.reduceLT, Nat.reduceLeDiff, Nat.reduceEqDiff, Nat.reduceBEq, Int.reduceToNat, Int.reduceLT, Int.reduceLE, Int.reduceEq, Int.reduceNeg, reduceIte, reduceCtorEq, h1]
    refine hK _ ?_
    clear hK K
    (repeat with_reducible first | refine Walk.seq ?_ | refine Walk.block ?_ | refine Walk.skip ?_ | refine Walk.inBlock ?_ | refine Walk.label ?_ | refine Walk.scope ?_ | refine Walk.inScope ?_ | refine Walk.exit rfl ?_)
    refine Walk.ret ⟨?_, by simp [subH, hget]⟩
    simp only [retAV, eget, List.map_cons, List.map_nil, reduceIte, Nat.reduceEqDiff, if_true, if_false, coefS, h1]
    simp
  · simp only [go_sem, rows_len, Nat.reduceAdd, Nat.reduceMul, Nat.reduceSub, Nat.reduceLT, Nat.reduceLeDiff, Nat.reduceEqDiff, Nat.reduceBEq, Int.reduceToNat, Int.reduceLT, Int.reduceLE, Int.reduceEq, Int.reduceNeg, reduceIte, reduceCtorEq, h1]
    refine hK _ ?_
    clear hK K
    (repeat with_reducible first | refine Walk.seq ?_ | refine Walk.block ?_ | refine Walk.skip ?_ | refine Walk.inBlock ?_ | refine Walk.label ?_ | refine Walk.scope ?_ | refine Walk.inScope ?_ | refine Walk.exit rfl ?_)
    refine Walk.ret ⟨?_, by simp [subH, hget]⟩
    simp only [retAV, eget, List.map_cons, List.map_nil, reduceIte, Nat.reduceEqDiff, if_true, if_false, coefS, h1]
    simp

def stateS (n : Nat) (st : List Int) : Bool := decide (st.length = n) && st.all fun x => !(decide (x < -1) || decide (x > 1))
theorem c47 (n : Nat) (st : List Int) (hn : n ≤ LB) : ACalls Try.prog 47 [.d (.int .i64 n), .d (.sl (ints st))] [] (.d (.bool (stateS n st))) [] := by
  have hn' := hn
  unfold LB at hn'
  refine ACalls.of_sem (n := 27) 0 [4] (fn := Try.f47) Try.func47 rfl rfl (.one rfl) rfl (by simp) (by simp [hget]) ?_
  (repeat with_reducible first | refine Walk.seq ?_ | refine Walk.block ?_ | refine Walk.skip ?_ | refine Walk.inBlock ?_ | refine Walk.label ?_ | refine Walk.scope ?_ | refine Walk.inScope ?_ | refine Walk.exit rfl ?_)
  refine Walk.region' rfl fun K hK => ?_
  simp only [go_sem, rows_len, Nat.reduceAdd, Nat.reduceMul, Nat.reduceSub, Nat.reduceLT, Nat.reduceLeDiff, Nat.reduceEqDiff, Nat.reduceBEq, Int.reduceToNat, Int.reduceLT, Int.reduceLE, Int.reduceEq, Int.reduceNeg, reduceIte, reduceCtorEq]
  refine hK _ ?_
  clear hK K
  (repeat with_reducible first | refine Walk.seq ?_ | refine Walk.block ?_ | refine Walk.skip ?_ | refine Walk.inBlock ?_ | refine Walk.label ?_ | refine Walk.scope ?_ | refine Walk.inScope ?_ | refine Walk.exit rfl ?_)
  refine Walk.region' rfl fun K hK => ?_
  simp only [go_sem, rows_len, Nat.reduceAdd, Nat.reduceMul, Nat.reduceSub, Nat.reduceLT, Nat.reduceLeDiff, Nat.reduceEqDiff, Nat.reduceBEq, Int.reduceToNat, Int.reduceLT, Int.reduceLE, Int.reduceEq, Int.reduceNeg, reduceIte, reduceCtorEq]
  refine hK _ ?_
  clear hK K
  (repeat with_reducible first | refine Walk.seq ?_ | refine Walk.block ?_ | refine Walk.skip ?_ | refine Walk.inBlock ?_ | refine Walk.label ?_ | refine Walk.scope ?_ | refine Walk.inScope ?_ | refine Walk.exit rfl ?_)
  refine Walk.cond rfl (fun h1 => ?_) (fun h1 => ?_)
  · simp at h1
    (repeat with_reducible first | refine Walk.seq ?_ | refine Walk.block ?_ | refine Walk.skip ?_ | refine Walk.inBlock ?_ | refine Walk.label ?_ | refine Walk.scope ?_ | refine Walk.inScope ?_ | refine Walk.exit rfl ?_)
    refine Walk.region' rfl fun K hK => ?_
    simp only [go_sem, rows_len, Nat.reduceAdd, Nat.reduceMul, Nat.reduceSub, Nat.reduceLT, Nat.reduceLeDiff, Nat.reduceEqDiff, Nat.reduceBEq, Int.reduceToNat, Int.reduceLT, Int.reduceLE, Int.reduceEq, Int.reduceNeg, reduceIte, reduceCtorEq]
    refine hK _ ?_
    clear hK K
    (repeat with_reducible first | refine Walk.seq ?_ | refine Walk.block ?_ | refine Walk.skip ?_ | refine Walk.inBlock ?_ | refine Walk.label ?_ | refine Walk.scope ?_ | refine Walk.inScope ?_ | refine Walk.exit rfl ?_)
    refine Walk.ret ⟨?_, by simp [subH, hget]⟩
    simp only [retAV, eget, List.map_cons, List.map_nil, reduceIte, Nat.reduceEqDiff, if_true, if_false]
    simp [stateS, h1]
  simp at h1
  (repeat with_reducible first | refine Walk.seq ?_ | refine Walk.block ?_ | refine Walk.skip ?_ | refine Walk.inBlock ?_ | refine Walk.label ?_ | refine Walk.scope ?_ | refine Walk.inScope ?_ | refine Walk.exit rfl ?_)
  refine Walk.region' rfl fun K hK => ?_
  simp only [go_sem, rows_len, Nat.reduceAdd, Nat.reduceMul, Nat.reduceSub, Nat.reduceLT, Nat.reduceLeDiff, Nat.reduceEqDiff, Nat.reduceBEq, Int.reduceToNat, Int.reduceLT, Int.reduceLE, Int.reduceEq, Int.reduceNeg, reduceIte, reduceCtorEq]
  refine hK _ ?_
  clear hK K
  (repeat with_reducible first | refine Walk.seq ?_ | refine Walk.block ?_ | refine Walk.skip ?_ | refine Walk.inBlock ?_ | refine Walk.label ?_ | refine Walk.scope ?_ | refine Walk.inScope ?_ | refine Walk.exit rfl ?_)
  refine Walk.loop ?_
  refine Walk.weaken ⟨[(5, .d (.int .i64 (0 : Nat))), (0, .d (.int .i64 n)), (1, .d (.sl (ints st)))], []⟩ (by simp [subE, eget]) (by simp [subH, hget]) ?_
  refine Walk.loopI (fun i : Nat => ⟨[(5, .d (.int .i64 i)), (0, .d (.int .i64 n)), (1, .d (.sl (ints st)))], []⟩)
    (fun i => i ≤ n ∧ ∀ j (h : j < st.length), j < i → (!(decide (st[j] < -1) || decide (st[j] > 1))) = true) (fun i => n - i) (fun i ⟨hi, hall⟩ ih => ?_) 0 ⟨by omega, fun j _ h => by omega⟩
  (repeat with_reducible first | refine Walk.seq ?_ | refine Walk.block ?_ | refine Walk.skip ?_ | refine Walk.inBlock ?_ | refine Walk.label ?_ | refine Walk.scope ?_ | refine Walk.inScope ?_ | refine Walk.exit rfl ?_)
  refine Walk.region' rfl fun K hK => ?_
  simp only [go_sem, rows_len, Nat.reduceAdd, Nat.reduceMul, Nat.reduceSub, Nat.reduceLT, Nat.reduceLeDiff, Nat.reduceEqDiff, Nat.reduceBEq, Int.reduceToNat, Int.reduceLT, Int.reduceLE, Int.reduceEq, Int.reduceNeg, reduceIte, reduceCtorEq]
  refine hK _ ?_
  clear hK K
  (repeat with_reducible first | refine Walk.seq ?_ | refine Walk.block ?_ | refine Walk.skip ?_ | refine Walk.inBlock ?_ | refine Walk.label ?_ | refine Walk.scope ?_ | refine Walk.inScope ?_ | refine Walk.exit rfl ?_)
  refine Walk.cond rfl (fun hc => ?_) (fun hc => ?_)
  · simp only [decide_eq_true_eq] at hc
    have hs : i < st.length := by omega
    have bad : (!(decide (st[i] < -1) || decide (st[i] > 1))) = false → AV.d (.bool false) = AV.d (.bool (stateS n st)) := fun h => by
      have : (st.all fun x => !(decide (x < -1) || decide (x > 1))) = false := by
        rw [List.all_eq_false]
        exact ⟨st[i], by simp, by simp at h ⊢; omega⟩
      simp only [stateS, this, Bool.and_false]
    (repeat with_reducible first | refine Walk.seq ?_ | refine Walk.block ?_ | refine Walk.skip ?_ | refine Walk.inBlock ?_ | refine Walk.label ?_ | refine Walk.scope ?_ | refine Walk.inScope ?_ | refine Walk.exit rfl ?_)
    refine Walk.region' rfl fun K hK => ?_
    simp only [go_sem, rows_len, Nat.reduceAdd, Nat.reduceMul, Nat.reduceSub, Nat.reduceLT, Nat.reduceLeDiff, Nat.reduceEqDiff, Nat.reduceBEq, Int.reduceToNat, Int.reduceLT, Int.reduceLE, Int.reduceEq, Int.reduceNeg, reduceIte, reduceCtorEq, ints_getD hs, hs]
    refine VGd_cases (fun h2 => ?_) (fun h2 => ?_)
    · simp only [go_sem, rows_len, Nat.reduceAdd, Nat.reduceMul, Nat.reduceSub, Nat.reduceLT, Nat.reduceLeDiff, Nat.reduceEqDiff, Nat.reduceBEq, Int.reduceToNat, Int.reduceLT, Int.reduceLE, Int.reduceEq, Int.reduceNeg, reduceIte, reduceCtorEq, h2]
      refine hK _ ?_
      clear hK K
      (repeat with_reducible first | refine Walk.seq ?_ | refine Walk.block ?_ | refine Walk.skip ?_ | refine Walk.inBlock ?_ | refine Walk.label ?_ | refine Walk.scope ?_ | refine Walk.inScope ?_ | refine Walk.exit rfl ?_)
      refine Walk.cond rfl (fun h3 => ?_) (fun h3 => ?_)
      · (repeat with_reducible first | refine Walk.seq ?_ | refine Walk.block ?_ | refine Walk.skip ?_ | refine Walk.inBlock ?_ | refine Walk.label ?_ | refine Walk.scope ?_ | refine Walk.inScope ?_ | refine Walk.exit rfl ?_)
        refine Walk.region' rfl fun K hK => ?_
        simp only [go_sem, rows_len, Nat.reduceAdd, Nat.reduceMul, Nat.reduceSub, Nat.reduceLT, Nat.reduceLeDiff, Nat.reduceEqDiff, Nat.reduceBEq, Int.reduceToNat, Int.reduceLT, Int.reduceLE, Int.reduceEq, Int.reduceNeg, reduceIte, reduceCtorEq]
        refine hK _ ?_
        clear hK K
        (repeat with_reducible first | refine Walk.seq ?_ | refine Walk.block ?_ | refine Walk.skip ?_ | refine Walk.inBlock ?_ | refine Walk.label ?_ | refine Walk.scope ?_ | refine Walk.inScope ?_ | refine Walk.exit rfl ?_)
        refine Walk.ret ⟨?_, by simp [subH, hget]⟩
        simp only [retAV, eget, List.map_cons, List.map_nil, reduceIte, Nat.reduceEqDiff, if_true, if_false]
        exact bad (by simp [h2])
      · simp at h3
    simp only [go_sem, rows_len, Nat.reduceAdd, Nat.reduceMul, Nat.reduceSub, Nat.reduceLT, Nat.reduceLeDiff, Nat.reduceEqDiff, Nat.reduceBEq, Int.reduceToNat, Int.reduceLT, Int.reduceLE, Int.reduceEq, Int.reduceNeg, reduceIte, reduceCtorEq, h2, ints_getD hs, hs]
    refine hK _ ?_
    clear hK K
    (repeat with_reducible first | refine Walk.seq ?_ | refine Walk.block ?_ | refine Walk.skip ?_ | refine Walk.inBlock ?_ | refine Walk.label ?_ | refine Walk.scope ?_ | refine Walk.inScope ?_ | refine Walk.exit rfl ?_)
    refine Walk.cond rfl (fun h3 => ?_) (fun h3 => ?_)
    · (repeat with_reducible first | refine Walk.seq ?_ | refine Walk.block ?_ | refine Walk.skip ?_ | refine Walk.inBlock ?_ | refine Walk.label ?_ | refine Walk.scope ?_ | refine Walk.inScope ?_ | refine Walk.exit rfl ?_)
      refine Walk.region' rfl fun K hK => ?_
      simp only [go_sem, rows_len, Nat.reduceAdd, Nat.reduceMul, Nat.reduceSub, Nat.reduceLT, Nat.reduceLeDiff, Nat.reduceEqDiff, Nat.reduceBEq, Int.reduceToNat, Int.reduceLT, Int.reduceLE, Int.reduceEq, Int.reduceNeg, reduceIte, reduceCtorEq]
      refine hK _ ?_
      clear hK K
      (repeat with_reducible first | refine Walk.seq ?_ | refine Walk.block ?_ | refine Walk.skip ?_ | refine Walk.inBlock ?_ | refine Walk.label ?_ | refine Walk.scope ?_ | refine Walk.inScope ?_ | refine Walk.exit rfl ?_)
      refine Walk.ret ⟨?_, by simp [subH, hget]⟩
      simp only [retAV, eget, List.map_cons, List.map_nil, reduceIte, Nat.reduceEqDiff, if_true, if_false]
      exact bad (by simp only [h2, h3]; rfl)
    have h4 : ∀ j (h : j < st.length), j < i + 1 → (!(decide (st[j] < -1) || decide (st[j] > 1))) = true := fun j h hj => by
      by_cases e : j = i
      · subst e; simp only [h2, h3]; rfl
      · exact hall j h (by omega)
    (repeat with_reducible first | refine Walk.seq ?_ | refine Walk.block ?_ | refine Walk.skip ?_ | refine Walk.inBlock ?_ | refine Walk.label ?_ | refine Walk.scope ?_ | refine Walk.inScope ?_ | refine Walk.exit rfl ?_)
    refine Walk.region' rfl fun K hK => ?_
    simp only [go_sem, rows_len, Nat.reduceAdd, Nat.reduceMul, Nat.reduceSub, Nat.reduceLT, Nat.reduceLeDiff, Nat.reduceEqDiff, Nat.reduceBEq, Int.reduceToNat, Int.reduceLT, Int.reduceLE, Int.reduceEq, Int.reduceNeg, reduceIte, reduceCtorEq, wrap64 (x := (i : Int) + 1) (by omega) (by omega)]
    refine hK _ ?_
    clear hK K
    (repeat with_reducible first | refine Walk.seq ?_ | refine Walk.block ?_ | refine Walk.skip ?_ | refine Walk.inBlock ?_ | refine Walk.label ?_ | refine Walk.scope ?_ | refine Walk.inScope ?_ | refine Walk.exit rfl ?_)
    refine Walk.weaken _ (by simp [subE, eget]) (by simp [subH, hget]) (ih (i + 1) ⟨by omega, h4⟩ (by omega))
  · simp only [decide_eq_false_iff_not] at hc
    (repeat with_reducible first | refine Walk.seq ?_ | refine Walk.block ?_ | refine Walk.skip ?_ | refine Walk.inBlock ?_ | refine Walk.label ?_ | refine Walk.scope ?_ | refine Walk.inScope ?_ | refine Walk.exit rfl ?_)
    refine Walk.region' rfl fun K hK => ?_
    simp only [go_sem, rows_len, Nat.reduceAdd, Nat.reduceMul, Nat.reduceSub, Nat.reduceLT, Nat.reduceLeDiff, Nat.reduceEqDiff, Nat.reduceBEq, Int.reduceToNat, Int.reduceLT, Int.reduceLE, Int.reduceEq, Int.reduceNeg, reduceIte, reduceCtorEq]
    refine hK _ ?_
    clear hK K
    (repeat with_reducible first | refine Walk.seq ?_ | refine Walk.block ?_ | refine Walk.skip ?_ | refine Walk.inBlock ?_ | refine Walk.label ?_ | refine Walk.scope ?_ | refine Walk.inScope ?_ | refine Walk.exit rfl ?_)
    refine Walk.ret ⟨?_, by simp [subH, hget]⟩
    simp only [retAV, eget, List.map_cons, List.map_nil, reduceIte, Nat.reduceEqDiff, if_true, if_false]
    have : (st.all fun x => !(decide (x < -1) || decide (x > 1))) = true := by
      rw [List.all_eq_true]
      intro x hx
      obtain ⟨j, hj, rfl⟩ := List.getElem_of_mem hx
      exact hall j hj (by omega)
    simp only [stateS, this, Bool.and_true]
    simp [h1]

/-- Span of the reference is Span. -/
theorem stateS_eq (st : List Int) (n : Nat) : stateS n st = (decide (st.length = n) && st.all stOk) := by
  unfold stateS
  have : (fun x : Int => !(decide (x < -1) || decide (x > 1))) = stOk := by
    funext x
    unfold stOk
    by_cases h1 : x = 1
    · subst h1; decide
    · by_cases h2 : x = -1
      · subst h2; decide
      · by_cases h3 : x = 0
        · subst h3; decide
        · simp [h1, h2, h3]; omega
  rw [this]
theorem smallS_eq (l : List Int) : smallS l = l.all coefS := by
  unfold smallS
  rw [Bool.eq_iff_iff]
  simp only [Bool.not_eq_true', List.any_eq_false, List.all_eq_true, coefS, Bool.or_eq_true, decide_eq_true_eq, Bool.and_eq_true, not_or]
  exact ⟨fun h x hx => by have := h x hx; omega, fun h x hx => by have := h x hx; omega⟩
theorem spanB_eq (cs st : List Int) : spanB cs st = (!decide ((cs.length : Int) > 12) && (stateS cs.length st && cs.all coefS)) := by
  rw [stateS_eq, ← smallS_eq]
  unfold spanB
  by_cases h : st.length = cs.length
  · rw [h]; simp
    cases decide ((cs.length : Int) ≤ 12) <;> cases smallS cs <;> simp
  · simp [h]
end Go.AX
