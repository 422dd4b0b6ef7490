import Derived.Test.YtmggphnhfegffaaF12
set_option linter.unusedVariables false
set_option linter.unusedSimpArgs false
set_option maxRecDepth 4000
set_option maxHeartbeats 4000000
namespace Go.AX
open Go.Proofs
attribute [local go_sem] V1_none V1_some V_nil V_move V_assign V_pick V_bin V_un V_extract V_makeFunc V_convert V_nilCheck V_fieldAddr V_field V_load V_store V_indexAddr V_index V_slice V_slice0 V_alloc V_box V_build V_buildSlice V_makeSlice V_len V_min V_max V_append V_call V_guard VGs_some VG_tt VG_ff VG_tf VG_ft VG_u gslot ok fail po so aNew dstOk freshU addLog_none' addLog_some' St.step putL evalA eget hget argE freshE freshO freshH AV.ids AV.idsL AV.ok1 AV.cells ids_box ids_arr liveBox liveArr isArr aPick aBin aUn aExtract aMakeFunc aConvert aNilCheck aFieldAddr aField cut aLen aIndexAddr aMin aMax aIndex bnd isInt aSlice aSlice0 aLoad aAlloc aBox aStore splice aMake updIds newIds zv_i64 zv_u8 zv_bool zv_nils zv_nilp cond_bool cond_int TI.isAgg TK.isSl TK.el okL avDps avDp avD List.map_cons List.map_nil List.append_nil List.nil_append List.cons_append List.length_cons List.length_nil List.take_succ_cons List.take_zero List.drop_succ_cons List.drop_zero List.take_nil List.drop_nil List.headD_cons List.getD_cons_zero List.getD_cons_succ List.mem_cons List.not_mem_nil List.getElem?_cons_zero List.getElem?_cons_succ List.toList_toArray Option.getD_some Option.getD_none Option.bind_some Option.bind_none Option.map_some Option.map_none Option.getD Option.toList Nat.zero_add Nat.add_zero Nat.zero_le Nat.le_refl if_true if_false ite_self true_and and_true false_and and_false true_or or_true false_or or_false not_true_eq_false not_false_eq_true ne_eq cond_true cond_false Bool.true_eq_false Bool.false_eq_true forall_const decide_true decide_false implies_true true_implies and_self or_self Nat.succ_ne_zero ints_len Int.toNat_natCast Int.ofNat_lt Int.ofNat_le Int.natCast_nonneg List.length_map decide_eq_true_eq AV.views AV.view AV.viewPs AV.viewP arrsOnly newNames List.length_append List.append_assoc Bool.not_true Bool.not_false AV.ok2 Int.ofNat_inj aBuild fillR fillP aBuildSlice dense elP aAppend esOf esOfP List.forall_mem_cons forall_eq_or_imp forall_eq zD zDp ti2 ti3 ti4 ti5 ti6 ti7 ti8 ti9 ti10 ti11 ti12 ti13 ti14 ti15 ti16 ti17 ti18 ti19 ti21 ti22 ti23 ti25 ti26 ti27 ti31 ti32 ti41 ti51 ti52 ti53 ti54 ti56 ti58 ti60 ti61 ti62 ti67 ti68 ti71 ti72 ti79 ti80 ti81 ti82 ti83 ti84 ti85 ti89 ti93 ti94 ti95 ti110 ti124 ti125 ti126 ti127 ti128 ti129 ti130 ti131 ti133 ti134 ti135 ti136 ti137

theorem c17 (cs st : List Int) (lo hi : Int) :
    ACalls Try.prog 17 [.agg [.d (.sl (ints cs)), .d (.int .i64 lo), .d (.int .i64 hi)], .d (.sl (ints st))] [] (.tup [.d (.int .i64 (spanL cs st)), .d (.int .i64 (spanM cs st)), .d (.bool (spanB cs st))]) [] := by
  have no : spanB cs st = false → (AV.tup [.d (.int .i64 0), .d (.int .i64 0), .d (.bool false)]) = .tup [.d (.int .i64 (spanL cs st)), .d (.int .i64 (spanM cs st)), .d (.bool (spanB cs st))] := fun h => by
    simp [spanL, spanM, h]
  refine ACalls.of_sem (n := 63) 0 [4, 5, 6] (fn := Try.f17) Try.func17 rfl rfl (.three rfl) rfl (by simp) (by simp [hget]) ?_
  (repeat with_reducible first | refine Walk.seq ?_ | refine Walk.block ?_ | refine Walk.skip ?_ | refine Walk.inBlock ?_ | refine Walk.label ?_ | refine Walk.scope ?_ | refine Walk.inScope ?_ | refine Walk.exit rfl ?_)
  refine Walk.region' rfl fun K hK => ?_
  simp only [go_sem, rows_len, Nat.reduceAdd, Nat.reduceMul, Nat.reduceSub, Nat.reduceLT, Nat.reduceLeDiff, Nat.reduceEqDiff, Nat.reduceBEq, Int.reduceToNat, Int.reduceLT, Int.reduceLE, Int.reduceEq, Int.reduceNeg, reduceIte, reduceCtorEq]
  refine hK _ ?_
  clear hK K
  (repeat with_reducible first | refine Walk.seq ?_ | refine Walk.block ?_ | refine Walk.skip ?_ | refine Walk.inBlock ?_ | refine Walk.label ?_ | refine Walk.scope ?_ | refine Walk.inScope ?_ | refine Walk.exit rfl ?_)
  refine Walk.region' rfl fun K hK => ?_
  simp only [go_sem, rows_len, Nat.reduceAdd, Nat.reduceMul, Nat.reduceSub, Nat.reduceLT, Nat.reduceLeDiff, Nat.reduceEqDiff, Nat.reduceBEq, Int.reduceToNat, Int.reduceLT, Int.reduceLE, Int.reduceEq, Int.reduceNeg, reduceIte, reduceCtorEq]
  refine VGd_cases (fun h1 => ?_) (fun h1 => ?_)
  · simp only [go_sem, rows_len, Nat.reduceAdd, Nat.reduceMul, Nat.reduceSub, Nat.reduceLT, Nat.reduceLeDiff, Nat.reduceEqDiff, Nat.reduceBEq, Int.reduceToNat, Int.reduceLT, Int.reduceLE, Int.reduceEq, Int.reduceNeg, reduceIte, reduceCtorEq, h1]
    refine hK _ ?_
    clear hK K
    (repeat with_reducible first | refine Walk.seq ?_ | refine Walk.block ?_ | refine Walk.skip ?_ | refine Walk.inBlock ?_ | refine Walk.label ?_ | refine Walk.scope ?_ | refine Walk.inScope ?_ | refine Walk.exit rfl ?_)
    refine Walk.cond rfl (fun h2 => ?_) (fun h2 => ?_)
    · (repeat with_reducible first | refine Walk.seq ?_ | refine Walk.block ?_ | refine Walk.skip ?_ | refine Walk.inBlock ?_ | refine Walk.label ?_ | refine Walk.scope ?_ | refine Walk.inScope ?_ | refine Walk.exit rfl ?_)
      refine Walk.region' rfl fun K hK => ?_
      simp only [go_sem, rows_len, Nat.reduceAdd, Nat.reduceMul, Nat.reduceSub, Nat.reduceLT, Nat.reduceLeDiff, Nat.reduceEqDiff, Nat.reduceBEq, Int.reduceToNat, Int.reduceLT, Int.reduceLE, Int.reduceEq, Int.reduceNeg, reduceIte, reduceCtorEq]
      refine hK _ ?_
      clear hK K
      (repeat with_reducible first | refine Walk.seq ?_ | refine Walk.block ?_ | refine Walk.skip ?_ | refine Walk.inBlock ?_ | refine Walk.label ?_ | refine Walk.scope ?_ | refine Walk.inScope ?_ | refine Walk.exit rfl ?_)
      refine Walk.ret ⟨?_, by simp [subH, hget]⟩
      simp only [retAV, eget, List.map_cons, List.map_nil, reduceIte, Nat.reduceEqDiff, if_true, if_false]
      exact no (by rw [spanB_eq, h1]; rfl)
    · simp at h2
  have hcs' : cs.length ≤ 12 := by simp at h1; omega
  simp only [go_sem, rows_len, Nat.reduceAdd, Nat.reduceMul, Nat.reduceSub, Nat.reduceLT, Nat.reduceLeDiff, Nat.reduceEqDiff, Nat.reduceBEq, Int.reduceToNat, Int.reduceLT, Int.reduceLE, Int.reduceEq, Int.reduceNeg, reduceIte, reduceCtorEq, h1]
  refine VCl.pure rfl rfl (c47 cs.length st (by unfold LB; omega)) (by simp only [go_sem, rows_len, Nat.reduceAdd, Nat.reduceMul, Nat.reduceSub, Nat.reduceLT, Nat.reduceLeDiff, Nat.reduceEqDiff, Nat.reduceBEq, Int.reduceToNat, Int.reduceLT, Int.reduceLE, Int.reduceEq, Int.reduceNeg, reduceIte, reduceCtorEq, h1]; try simp) (by simp only [go_sem, rows_len, Nat.reduceAdd, Nat.reduceMul, Nat.reduceSub, Nat.reduceLT, Nat.reduceLeDiff, Nat.reduceEqDiff, Nat.reduceBEq, Int.reduceToNat, Int.reduceLT, Int.reduceLE, Int.reduceEq, Int.reduceNeg, reduceIte, reduceCtorEq, h1]; try simp) (by simp only [go_sem, rows_len, Nat.reduceAdd, Nat.reduceMul, Nat.reduceSub, Nat.reduceLT, Nat.reduceLeDiff, Nat.reduceEqDiff, Nat.reduceBEq, Int.reduceToNat, Int.reduceLT, Int.reduceLE, Int.reduceEq, Int.reduceNeg, reduceIte, reduceCtorEq, h1]; try simp) (by simp only [go_sem, rows_len, Nat.reduceAdd, Nat.reduceMul, Nat.reduceSub, Nat.reduceLT, Nat.reduceLeDiff, Nat.reduceEqDiff, Nat.reduceBEq, Int.reduceToNat, Int.reduceLT, Int.reduceLE, Int.reduceEq, Int.reduceNeg, reduceIte, reduceCtorEq, h1]; try simp) (by simp only [go_sem, rows_len, Nat.reduceAdd, Nat.reduceMul, Nat.reduceSub, Nat.reduceLT, Nat.reduceLeDiff, Nat.reduceEqDiff, Nat.reduceBEq, Int.reduceToNat, Int.reduceLT, Int.reduceLE, Int.reduceEq, Int.reduceNeg, reduceIte, reduceCtorEq, h1]; try simp) (by simp only [go_sem, rows_len, Nat.reduceAdd, Nat.reduceMul, Nat.reduceSub, Nat.reduceLT, Nat.reduceLeDiff, Nat.reduceEqDiff, Nat.reduceBEq, Int.reduceToNat, Int.reduceLT, Int.reduceLE, Int.reduceEq, Int.reduceNeg, reduceIte, reduceCtorEq, h1]; try simp) ?_
  simp only [go_sem, rows_len, Nat.reduceAdd, Nat.reduceMul, Nat.reduceSub, Nat.reduceLT, Nat.reduceLeDiff, Nat.reduceEqDiff, Nat.reduceBEq, Int.reduceToNat, Int.reduceLT, Int.reduceLE, Int.reduceEq, Int.reduceNeg, reduceIte, reduceCtorEq, h1]
  refine hK _ ?_
  clear hK K
  (repeat with_reducible first | refine Walk.seq ?_ | refine Walk.block ?_ | refine Walk.skip ?_ | refine Walk.inBlock ?_ | refine Walk.label ?_ | refine Walk.scope ?_ | refine Walk.inScope ?_ | refine Walk.exit rfl ?_)
  refine Walk.cond rfl (fun h2 => ?_) (fun h2 => ?_)
  · (repeat with_reducible first | refine Walk.seq ?_ | refine Walk.block ?_ | refine Walk.skip ?_ | refine Walk.inBlock ?_ | refine Walk.label ?_ | refine Walk.scope ?_ | refine Walk.inScope ?_ | refine Walk.exit rfl ?_)
    refine Walk.region' rfl fun K hK => ?_
    simp only [go_sem, rows_len, Nat.reduceAdd, Nat.reduceMul, Nat.reduceSub, Nat.reduceLT, Nat.reduceLeDiff, Nat.reduceEqDiff, Nat.reduceBEq, Int.reduceToNat, Int.reduceLT, Int.reduceLE, Int.reduceEq, Int.reduceNeg, reduceIte, reduceCtorEq]
    refine hK _ ?_
    clear hK K
    (repeat with_reducible first | refine Walk.seq ?_ | refine Walk.block ?_ | refine Walk.skip ?_ | refine Walk.inBlock ?_ | refine Walk.label ?_ | refine Walk.scope ?_ | refine Walk.inScope ?_ | refine Walk.exit rfl ?_)
    refine Walk.ret ⟨?_, by simp [subH, hget]⟩
    simp only [retAV, eget, List.map_cons, List.map_nil, reduceIte, Nat.reduceEqDiff, if_true, if_false]
    exact no (by rw [spanB_eq, h1]; simp at h2; rw [h2]; rfl)
  have h2' : stateS cs.length st = true := by simpa using h2
  have hl : st.length = cs.length := by simp [stateS] at h2'; exact h2'.1
  (repeat with_reducible first | refine Walk.seq ?_ | refine Walk.block ?_ | refine Walk.skip ?_ | refine Walk.inBlock ?_ | refine Walk.label ?_ | refine Walk.scope ?_ | refine Walk.inScope ?_ | refine Walk.exit rfl ?_)
  refine Walk.region' rfl fun K hK => ?_
  simp only [go_sem, rows_len, Nat.reduceAdd, Nat.reduceMul, Nat.reduceSub, Nat.reduceLT, Nat.reduceLeDiff, Nat.reduceEqDiff, Nat.reduceBEq, Int.reduceToNat, Int.reduceLT, Int.reduceLE, Int.reduceEq, Int.reduceNeg, reduceIte, reduceCtorEq]
  refine hK _ ?_
  clear hK K
  (repeat with_reducible first | refine Walk.seq ?_ | refine Walk.block ?_ | refine Walk.skip ?_ | refine Walk.inBlock ?_ | refine Walk.label ?_ | refine Walk.scope ?_ | refine Walk.inScope ?_ | refine Walk.exit rfl ?_)
  refine Walk.region' rfl fun K hK => ?_
  simp only [go_sem, rows_len, Nat.reduceAdd, Nat.reduceMul, Nat.reduceSub, Nat.reduceLT, Nat.reduceLeDiff, Nat.reduceEqDiff, Nat.reduceBEq, Int.reduceToNat, Int.reduceLT, Int.reduceLE, Int.reduceEq, Int.reduceNeg, reduceIte, reduceCtorEq]
  refine hK _ ?_
  clear hK K
  (repeat with_reducible first | refine Walk.seq ?_ | refine Walk.block ?_ | refine Walk.skip ?_ | refine Walk.inBlock ?_ | refine Walk.label ?_ | refine Walk.scope ?_ | refine Walk.inScope ?_ | refine Walk.exit rfl ?_)
  refine Walk.loop ?_
  refine Walk.weaken ⟨[(9, .d (.int .i64 (0 : Nat))), (7, .d (.int .i64 (lowT cs st 0))), (8, .d (.int .i64 (highT cs st 0))), (2, .box 2 0), (1, .d (.sl (ints st)))], [(2, some (.box [.d (.sl (ints cs)), .d (.int .i64 lo), .d (.int .i64 hi)]))]⟩ (by simp [subE, eget, lowT, highT]) (by simp [subH, hget, lowT, highT]) ?_
  refine Walk.loopI (fun i : Nat => ⟨[(9, .d (.int .i64 i)), (7, .d (.int .i64 (lowT cs st i))), (8, .d (.int .i64 (highT cs st i))), (2, .box 2 0), (1, .d (.sl (ints st)))], [(2, some (.box [.d (.sl (ints cs)), .d (.int .i64 lo), .d (.int .i64 hi)]))]⟩)
    (fun i => i ≤ st.length ∧ ∀ j (h : j < cs.length), j < i → coefS cs[j] = true) (fun i => st.length - i) (fun i ⟨hi, hall⟩ ih => ?_) 0 ⟨by omega, fun j _ h => by omega⟩
  (repeat with_reducible first | refine Walk.seq ?_ | refine Walk.block ?_ | refine Walk.skip ?_ | refine Walk.inBlock ?_ | refine Walk.label ?_ | refine Walk.scope ?_ | refine Walk.inScope ?_ | refine Walk.exit rfl ?_)
  refine Walk.region' rfl fun K hK => ?_
  simp only [go_sem, rows_len, Nat.reduceAdd, Nat.reduceMul, Nat.reduceSub, Nat.reduceLT, Nat.reduceLeDiff, Nat.reduceEqDiff, Nat.reduceBEq, Int.reduceToNat, Int.reduceLT, Int.reduceLE, Int.reduceEq, Int.reduceNeg, reduceIte, reduceCtorEq]
  refine hK _ ?_
  clear hK K
  (repeat with_reducible first | refine Walk.seq ?_ | refine Walk.block ?_ | refine Walk.skip ?_ | refine Walk.inBlock ?_ | refine Walk.label ?_ | refine Walk.scope ?_ | refine Walk.inScope ?_ | refine Walk.exit rfl ?_)
  refine Walk.cond rfl (fun hc => ?_) (fun hc => ?_)
  · simp only [decide_eq_true_eq] at hc
    have hs : i < cs.length := by omega
    have eL : lowT cs st (i + 1) = lowF (lowT cs st i) cs[i] st[i] := by simp only [lowT, getD_of hs, getD_of hc]
    have eM : highT cs st (i + 1) = highF (highT cs st i) cs[i] st[i] := by simp only [highT, getD_of hs, getD_of hc]
    (repeat with_reducible first | refine Walk.seq ?_ | refine Walk.block ?_ | refine Walk.skip ?_ | refine Walk.inBlock ?_ | refine Walk.label ?_ | refine Walk.scope ?_ | refine Walk.inScope ?_ | refine Walk.exit rfl ?_)
    refine Walk.region' rfl fun K hK => ?_
    simp only [go_sem, rows_len, Nat.reduceAdd, Nat.reduceMul, Nat.reduceSub, Nat.reduceLT, Nat.reduceLeDiff, Nat.reduceEqDiff, Nat.reduceBEq, Int.reduceToNat, Int.reduceLT, Int.reduceLE, Int.reduceEq, Int.reduceNeg, reduceIte, reduceCtorEq, ints_getD hs, hs]
    refine hK _ ?_
    clear hK K
    (repeat with_reducible first | refine Walk.seq ?_ | refine Walk.block ?_ | refine Walk.skip ?_ | refine Walk.inBlock ?_ | refine Walk.label ?_ | refine Walk.scope ?_ | refine Walk.inScope ?_ | refine Walk.exit rfl ?_)
    refine Walk.region' rfl fun K hK => ?_
    simp only [go_sem, rows_len, Nat.reduceAdd, Nat.reduceMul, Nat.reduceSub, Nat.reduceLT, Nat.reduceLeDiff, Nat.reduceEqDiff, Nat.reduceBEq, Int.reduceToNat, Int.reduceLT, Int.reduceLE, Int.reduceEq, Int.reduceNeg, reduceIte, reduceCtorEq]
    refine VCl.pure rfl rfl (c48 cs[i]) (by simp only [go_sem, rows_len, Nat.reduceAdd, Nat.reduceMul, Nat.reduceSub, Nat.reduceLT, Nat.reduceLeDiff, Nat.reduceEqDiff, Nat.reduceBEq, Int.reduceToNat, Int.reduceLT, Int.reduceLE, Int.reduceEq, Int.reduceNeg, reduceIte, reduceCtorEq]; try simp) (by simp only [go_sem, rows_len, Nat.reduceAdd, Nat.reduceMul, Nat.reduceSub, Nat.reduceLT, Nat.reduceLeDiff, Nat.reduceEqDiff, Nat.reduceBEq, Int.reduceToNat, Int.reduceLT, Int.reduceLE, Int.reduceEq, Int.reduceNeg, reduceIte, reduceCtorEq]; try simp) (by simp only [go_sem, rows_len, Nat.reduceAdd, Nat.reduceMul, Nat.reduceSub, Nat.reduceLT, Nat.reduceLeDiff, Nat.reduceEqDiff, Nat.reduceBEq, Int.reduceToNat, Int.reduceLT, Int.reduceLE, Int.reduceEq, Int.reduceNeg, reduceIte, reduceCtorEq]; try simp) (by simp only [go_sem, rows_len, Nat.reduceAdd, Nat.reduceMul, Nat.reduceSub, Nat.reduceLT, Nat.reduceLeDiff, Nat.reduceEqDiff, Nat.reduceBEq, Int.reduceToNat, Int.reduceLT, Int.reduceLE, Int.reduceEq, Int.reduceNeg, reduceIte, reduceCtorEq]; try simp) (by simp only [go_sem, rows_len, Nat.reduceAdd, Nat.reduceMul, Nat.reduceSub, Nat.reduceLT, Nat.reduceLeDiff, Nat.reduceEqDiff, Nat.reduceBEq, Int.reduceToNat, Int.reduceLT, Int.reduceLE, Int.reduceEq, Int.reduceNeg, reduceIte, reduceCtorEq]; try simp) (by simp only [go_sem, rows_len, Nat.reduceAdd, Nat.reduceMul, Nat.reduceSub, Nat.reduceLT, Nat.reduceLeDiff, Nat.reduceEqDiff, Nat.reduceBEq, Int.reduceToNat, Int.reduceLT, Int.reduceLE, Int.reduceEq, Int.reduceNeg, reduceIte, reduceCtorEq]; try simp) ?_
    simp only [go_sem, rows_len, Nat.reduceAdd, Nat.reduceMul, Nat.reduceSub, Nat.reduceLT, Nat.reduceLeDiff, Nat.reduceEqDiff, Nat.reduceBEq, Int.reduceToNat, Int.reduceLT, Int.reduceLE, Int.reduceEq, Int.reduceNeg, reduceIte, reduceCtorEq]
    refine hK _ ?_
    clear hK K
    (repeat with_reducible first | refine Walk.seq ?_ | refine Walk.block ?_ | refine Walk.skip ?_ | refine Walk.inBlock ?_ | refine Walk.label ?_ | refine Walk.scope ?_ | refine Walk.inScope ?_ | refine Walk.exit rfl ?_)
    refine Walk.cond rfl (fun h3 => ?_) (fun h3 => ?_)
    · (repeat with_reducible first | refine Walk.seq ?_ | refine Walk.block ?_ | refine Walk.skip ?_ | refine Walk.inBlock ?_ | refine Walk.label ?_ | refine Walk.scope ?_ | refine Walk.inScope ?_ | refine Walk.exit rfl ?_)
      refine Walk.region' rfl fun K hK => ?_
      simp only [go_sem, rows_len, Nat.reduceAdd, Nat.reduceMul, Nat.reduceSub, Nat.reduceLT, Nat.reduceLeDiff, Nat.reduceEqDiff, Nat.reduceBEq, Int.reduceToNat, Int.reduceLT, Int.reduceLE, Int.reduceEq, Int.reduceNeg, reduceIte, reduceCtorEq]
      refine hK _ ?_
      clear hK K
      (repeat with_reducible first | refine Walk.seq ?_ | refine Walk.block ?_ | refine Walk.skip ?_ | refine Walk.inBlock ?_ | refine Walk.label ?_ | refine Walk.scope ?_ | refine Walk.inScope ?_ | refine Walk.exit rfl ?_)
      refine Walk.ret ⟨?_, by simp [subH, hget]⟩
      simp only [retAV, eget, List.map_cons, List.map_nil, reduceIte, Nat.reduceEqDiff, if_true, if_false]
      have : cs.all coefS = false := by
        rw [List.all_eq_false]
        exact ⟨cs[i], by simp, by simpa using h3⟩
      exact no (by rw [spanB_eq, this]; simp)
    have h4 : ∀ j (h : j < cs.length), j < i + 1 → coefS cs[j] = true := fun j h hj => by
      by_cases e : j = i
      · subst e; simpa using h3
      · exact hall j h (by omega)
    (repeat with_reducible first | refine Walk.seq ?_ | refine Walk.block ?_ | refine Walk.skip ?_ | refine Walk.inBlock ?_ | refine Walk.label ?_ | refine Walk.scope ?_ | refine Walk.inScope ?_ | refine Walk.exit rfl ?_)
    refine Walk.region' rfl fun K hK => ?_
    simp only [go_sem, rows_len, Nat.reduceAdd, Nat.reduceMul, Nat.reduceSub, Nat.reduceLT, Nat.reduceLeDiff, Nat.reduceEqDiff, Nat.reduceBEq, Int.reduceToNat, Int.reduceLT, Int.reduceLE, Int.reduceEq, Int.reduceNeg, reduceIte, reduceCtorEq, ints_getD hc, hc]
    refine hK _ ?_
    clear hK K
    (repeat with_reducible first | refine Walk.seq ?_ | refine Walk.block ?_ | refine Walk.skip ?_ | refine Walk.inBlock ?_ | refine Walk.label ?_ | refine Walk.scope ?_ | refine Walk.inScope ?_ | refine Walk.exit rfl ?_)
    refine Walk.cond rfl (fun h5 => ?_) (fun h5 => ?_)
    · simp only [decide_eq_true_eq] at h5
      (repeat with_reducible first | refine Walk.seq ?_ | refine Walk.block ?_ | refine Walk.skip ?_ | refine Walk.inBlock ?_ | refine Walk.label ?_ | refine Walk.scope ?_ | refine Walk.inScope ?_ | refine Walk.exit rfl ?_)
      refine Walk.region' rfl fun K hK => ?_
      simp only [go_sem, rows_len, Nat.reduceAdd, Nat.reduceMul, Nat.reduceSub, Nat.reduceLT, Nat.reduceLeDiff, Nat.reduceEqDiff, Nat.reduceBEq, Int.reduceToNat, Int.reduceLT, Int.reduceLE, Int.reduceEq, Int.reduceNeg, reduceIte, reduceCtorEq]
      refine hK _ ?_
      clear hK K
      (repeat with_reducible first | refine Walk.seq ?_ | refine Walk.block ?_ | refine Walk.skip ?_ | refine Walk.inBlock ?_ | refine Walk.label ?_ | refine Walk.scope ?_ | refine Walk.inScope ?_ | refine Walk.exit rfl ?_)
      refine Walk.region' rfl fun K hK => ?_
      simp only [go_sem, rows_len, Nat.reduceAdd, Nat.reduceMul, Nat.reduceSub, Nat.reduceLT, Nat.reduceLeDiff, Nat.reduceEqDiff, Nat.reduceBEq, Int.reduceToNat, Int.reduceLT, Int.reduceLE, Int.reduceEq, Int.reduceNeg, reduceIte, reduceCtorEq]
      refine hK _ ?_
      clear hK K
      (repeat with_reducible first | refine Walk.seq ?_ | refine Walk.block ?_ | refine Walk.skip ?_ | refine Walk.inBlock ?_ | refine Walk.label ?_ | refine Walk.scope ?_ | refine Walk.inScope ?_ | refine Walk.exit rfl ?_)
      refine Walk.region' rfl fun K hK => ?_
      simp only [go_sem, rows_len, Nat.reduceAdd, Nat.reduceMul, Nat.reduceSub, Nat.reduceLT, Nat.reduceLeDiff, Nat.reduceEqDiff, Nat.reduceBEq, Int.reduceToNat, Int.reduceLT, Int.reduceLE, Int.reduceEq, Int.reduceNeg, reduceIte, reduceCtorEq, ints_getD hc, hc, h5]
      refine hK _ ?_
      clear hK K
      (repeat with_reducible first | refine Walk.seq ?_ | refine Walk.block ?_ | refine Walk.skip ?_ | refine Walk.inBlock ?_ | refine Walk.label ?_ | refine Walk.scope ?_ | refine Walk.inScope ?_ | refine Walk.exit rfl ?_)
      refine Walk.cond rfl (fun h6 => ?_) (fun h6 => ?_)
      · simp at h6
      (repeat with_reducible first | refine Walk.seq ?_ | refine Walk.block ?_ | refine Walk.skip ?_ | refine Walk.inBlock ?_ | refine Walk.label ?_ | refine Walk.scope ?_ | refine Walk.inScope ?_ | refine Walk.exit rfl ?_)
      refine Walk.region' rfl fun K hK => ?_
      simp only [go_sem, rows_len, Nat.reduceAdd, Nat.reduceMul, Nat.reduceSub, Nat.reduceLT, Nat.reduceLeDiff, Nat.reduceEqDiff, Nat.reduceBEq, Int.reduceToNat, Int.reduceLT, Int.reduceLE, Int.reduceEq, Int.reduceNeg, reduceIte, reduceCtorEq, wrap64 (x := (i : Int) + 1) (by omega) (by omega)]
      refine hK _ ?_
      clear hK K
      refine Walk.weaken _ (by simp [subE, eget, eL, eM, lowF, highF, h5]) (by simp [subH, hget]) (ih (i + 1) ⟨by omega, h4⟩ (by omega))
    simp only [decide_eq_false_iff_not] at h5
    (repeat with_reducible first | refine Walk.seq ?_ | refine Walk.block ?_ | refine Walk.skip ?_ | refine Walk.inBlock ?_ | refine Walk.label ?_ | refine Walk.scope ?_ | refine Walk.inScope ?_ | refine Walk.exit rfl ?_)
    refine Walk.region' rfl fun K hK => ?_
    simp only [go_sem, rows_len, Nat.reduceAdd, Nat.reduceMul, Nat.reduceSub, Nat.reduceLT, Nat.reduceLeDiff, Nat.reduceEqDiff, Nat.reduceBEq, Int.reduceToNat, Int.reduceLT, Int.reduceLE, Int.reduceEq, Int.reduceNeg, reduceIte, reduceCtorEq, ints_getD hc, hc]
    refine hK _ ?_
    clear hK K
    (repeat with_reducible first | refine Walk.seq ?_ | refine Walk.block ?_ | refine Walk.skip ?_ | refine Walk.inBlock ?_ | refine Walk.label ?_ | refine Walk.scope ?_ | refine Walk.inScope ?_ | refine Walk.exit rfl ?_)
    refine Walk.cond rfl (fun h6 => ?_) (fun h6 => ?_)
    · simp only [decide_eq_true_eq] at h6
      (repeat with_reducible first | refine Walk.seq ?_ | refine Walk.block ?_ | refine Walk.skip ?_ | refine Walk.inBlock ?_ | refine Walk.label ?_ | refine Walk.scope ?_ | refine Walk.inScope ?_ | refine Walk.exit rfl ?_)
      refine Walk.region' rfl fun K hK => ?_
      simp only [go_sem, rows_len, Nat.reduceAdd, Nat.reduceMul, Nat.reduceSub, Nat.reduceLT, Nat.reduceLeDiff, Nat.reduceEqDiff, Nat.reduceBEq, Int.reduceToNat, Int.reduceLT, Int.reduceLE, Int.reduceEq, Int.reduceNeg, reduceIte, reduceCtorEq]
      refine hK _ ?_
      clear hK K
      (repeat with_reducible first | refine Walk.seq ?_ | refine Walk.block ?_ | refine Walk.skip ?_ | refine Walk.inBlock ?_ | refine Walk.label ?_ | refine Walk.scope ?_ | refine Walk.inScope ?_ | refine Walk.exit rfl ?_)
      refine Walk.region' rfl fun K hK => ?_
      simp only [go_sem, rows_len, Nat.reduceAdd, Nat.reduceMul, Nat.reduceSub, Nat.reduceLT, Nat.reduceLeDiff, Nat.reduceEqDiff, Nat.reduceBEq, Int.reduceToNat, Int.reduceLT, Int.reduceLE, Int.reduceEq, Int.reduceNeg, reduceIte, reduceCtorEq]
      refine hK _ ?_
      clear hK K
      (repeat with_reducible first | refine Walk.seq ?_ | refine Walk.block ?_ | refine Walk.skip ?_ | refine Walk.inBlock ?_ | refine Walk.label ?_ | refine Walk.scope ?_ | refine Walk.inScope ?_ | refine Walk.exit rfl ?_)
      refine Walk.region' rfl fun K hK => ?_
      simp only [go_sem, rows_len, Nat.reduceAdd, Nat.reduceMul, Nat.reduceSub, Nat.reduceLT, Nat.reduceLeDiff, Nat.reduceEqDiff, Nat.reduceBEq, Int.reduceToNat, Int.reduceLT, Int.reduceLE, Int.reduceEq, Int.reduceNeg, reduceIte, reduceCtorEq, wrap64 (x := (i : Int) + 1) (by omega) (by omega)]
      refine hK _ ?_
      clear hK K
      refine Walk.weaken _ (by simp [subE, eget, eL, eM, lowF, highF, h6]) (by simp [subH, hget]) (ih (i + 1) ⟨by omega, h4⟩ (by omega))
    simp only [decide_eq_false_iff_not] at h6
    (repeat with_reducible first | refine Walk.seq ?_ | refine Walk.block ?_ | refine Walk.skip ?_ | refine Walk.inBlock ?_ | refine Walk.label ?_ | refine Walk.scope ?_ | refine Walk.inScope ?_ | refine Walk.exit rfl ?_)
    refine Walk.region' rfl fun K hK => ?_
    simp only [go_sem, rows_len, Nat.reduceAdd, Nat.reduceMul, Nat.reduceSub, Nat.reduceLT, Nat.reduceLeDiff, Nat.reduceEqDiff, Nat.reduceBEq, Int.reduceToNat, Int.reduceLT, Int.reduceLE, Int.reduceEq, Int.reduceNeg, reduceIte, reduceCtorEq, wrap64 (x := (i : Int) + 1) (by omega) (by omega)]
    refine hK _ ?_
    clear hK K
    refine Walk.weaken _ (by simp [subE, eget, eL, eM, lowF, highF, h5, h6]) (by simp [subH, hget]) (ih (i + 1) ⟨by omega, h4⟩ (by omega))
  · simp only [decide_eq_false_iff_not] at hc
    (repeat with_reducible first | refine Walk.seq ?_ | refine Walk.block ?_ | refine Walk.skip ?_ | refine Walk.inBlock ?_ | refine Walk.label ?_ | refine Walk.scope ?_ | refine Walk.inScope ?_ | refine Walk.exit rfl ?_)
    refine Walk.region' rfl fun K hK => ?_
    simp only [go_sem, rows_len, Nat.reduceAdd, Nat.reduceMul, Nat.reduceSub, Nat.reduceLT, Nat.reduceLeDiff, Nat.reduceEqDiff, Nat.reduceBEq, Int.reduceToNat, Int.reduceLT, Int.reduceLE, Int.reduceEq, Int.reduceNeg, reduceIte, reduceCtorEq]
    refine hK _ ?_
    clear hK K
    (repeat with_reducible first | refine Walk.seq ?_ | refine Walk.block ?_ | refine Walk.skip ?_ | refine Walk.inBlock ?_ | refine Walk.label ?_ | refine Walk.scope ?_ | refine Walk.inScope ?_ | refine Walk.exit rfl ?_)
    refine Walk.ret ⟨?_, by simp [subH, hget]⟩
    simp only [retAV, eget, List.map_cons, List.map_nil, reduceIte, Nat.reduceEqDiff, if_true, if_false]
    have : cs.all coefS = true := by
      rw [List.all_eq_true]
      intro x hx
      obtain ⟨j, hj, rfl⟩ := List.getElem_of_mem hx
      exact hall j hj (by omega)
    have hb : spanB cs st = true := by rw [spanB_eq, h1, h2', this]; rfl
    have e : i = cs.length := by omega
    simp [spanL, spanM, hb, e]
end Go.AX
