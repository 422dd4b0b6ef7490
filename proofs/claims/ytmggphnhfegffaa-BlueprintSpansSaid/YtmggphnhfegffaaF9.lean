import Derived.Test.YtmggphnhfegffaaF8
set_option linter.unusedVariables false
set_option linter.unusedSimpArgs false
set_option maxRecDepth 4000
namespace Go.AX
open Go.Proofs
attribute [local go_sem] V1_none V1_some V_nil V_move V_assign V_pick V_bin V_un V_extract V_makeFunc V_convert V_nilCheck V_fieldAddr V_field V_load V_store V_indexAddr V_index V_slice V_slice0 V_alloc V_box V_build V_buildSlice V_makeSlice V_len V_min V_max V_append V_call V_guard VGs_some VG_tt VG_ff VG_tf VG_ft VG_u gslot ok fail po so aNew dstOk freshU addLog_none' addLog_some' St.step putL evalA eget hget argE freshE freshO freshH AV.ids AV.idsL AV.ok1 AV.cells ids_box ids_arr liveBox liveArr isArr aPick aBin aUn aExtract aMakeFunc aConvert aNilCheck aFieldAddr aField cut aLen aIndexAddr aMin aMax aIndex bnd isInt aSlice aSlice0 aLoad aAlloc aBox aStore splice aMake updIds newIds zv_i64 zv_u8 zv_bool zv_nils zv_nilp cond_bool cond_int TI.isAgg TK.isSl TK.el okL avDps avDp avD List.map_cons List.map_nil List.append_nil List.nil_append List.cons_append List.length_cons List.length_nil List.take_succ_cons List.take_zero List.drop_succ_cons List.drop_zero List.take_nil List.drop_nil List.headD_cons List.getD_cons_zero List.getD_cons_succ List.mem_cons List.not_mem_nil List.getElem?_cons_zero List.getElem?_cons_succ List.toList_toArray Option.getD_some Option.getD_none Option.bind_some Option.bind_none Option.map_some Option.map_none Option.getD Option.toList Nat.zero_add Nat.add_zero Nat.zero_le Nat.le_refl if_true if_false ite_self true_and and_true false_and and_false true_or or_true false_or or_false not_true_eq_false not_false_eq_true ne_eq cond_true cond_false Bool.true_eq_false Bool.false_eq_true forall_const decide_true decide_false implies_true true_implies and_self or_self Nat.succ_ne_zero ints_len Int.toNat_natCast Int.ofNat_lt Int.ofNat_le Int.natCast_nonneg List.length_map decide_eq_true_eq AV.views AV.view AV.viewPs AV.viewP arrsOnly newNames List.length_append List.append_assoc Bool.not_true Bool.not_false AV.ok2 Int.ofNat_inj aBuild fillR fillP aBuildSlice dense elP aAppend esOf esOfP List.forall_mem_cons forall_eq_or_imp forall_eq zD zDp ti2 ti3 ti4 ti5 ti6 ti7 ti8 ti9 ti10 ti11 ti12 ti13 ti14 ti15 ti16 ti17 ti18 ti19 ti21 ti22 ti23 ti25 ti26 ti27 ti31 ti32 ti41 ti51 ti52 ti53 ti54 ti56 ti58 ti60 ti61 ti62 ti67 ti68 ti71 ti72 ti79 ti80 ti81 ti82 ti83 ti84 ti85 ti89 ti93 ti94 ti95 ti110 ti124 ti125 ti126 ti127 ti128 ti129 ti130 ti131 ti133 ti134 ti135 ti136 ti137

/-- Tape.Next -/
theorem c29 (id : Nat) (l : List Int) (a : Nat) (n : Int) (hl : l.length ≤ 600) (ha : a ≤ l.length) (hn : n ≤ 1000000) :
    ∃ x a', a' ≤ l.length ∧ 0 ≤ x ∧ x ≤ max (n - 1) 0 ∧ ACalls Try.prog 29 [.box id 0, .d (.int .i64 n)] [(id, some (tape l a))] (.d (.int .i64 x)) [(id, some (tape l a'))] := by
  obtain ⟨x, a', h1, h2⟩ := c52 id l a hl ha
  refine ⟨cutS x n, a', h1, (cutS_facts x n).1, (cutS_facts x n).2, ?_⟩
  refine ACalls.of_sem (n := 9) (id + 1) [4] (fn := Try.f29) Try.func29 rfl rfl (.one rfl) rfl (by simp) (by intro i; simp only [hget]; split <;> simp; omega) ?_
  (repeat with_reducible first | refine Walk.seq ?_ | refine Walk.block ?_ | refine Walk.skip ?_ | refine Walk.inBlock ?_ | refine Walk.label ?_ | refine Walk.scope ?_ | refine Walk.inScope ?_ | refine Walk.exit rfl ?_)
  refine Walk.region' rfl fun K hK => ?_
  simp only [go_sem, rows_len, tape_ids, Nat.reduceAdd, Nat.reduceMul, Nat.reduceSub, Nat.reduceLT, Nat.reduceLeDiff, Nat.reduceEqDiff, Nat.reduceBEq, Int.reduceToNat, Int.reduceLT, Int.reduceLE, Int.reduceEq, Int.reduceNeg, reduceIte, reduceCtorEq]
  refine hK _ ?_
  clear hK K
  (repeat with_reducible first | refine Walk.seq ?_ | refine Walk.block ?_ | refine Walk.skip ?_ | refine Walk.inBlock ?_ | refine Walk.label ?_ | refine Walk.scope ?_ | refine Walk.inScope ?_ | refine Walk.exit rfl ?_)
  refine Walk.region' rfl fun K hK => ?_
  simp only [go_sem, rows_len, tape_ids, Nat.reduceAdd, Nat.reduceMul, Nat.reduceSub, Nat.reduceLT, Nat.reduceLeDiff, Nat.reduceEqDiff, Nat.reduceBEq, Int.reduceToNat, Int.reduceLT, Int.reduceLE, Int.reduceEq, Int.reduceNeg, reduceIte, reduceCtorEq]
  refine VCl.sub [(id, some (tape l a))] [] rfl (by simp only [go_sem, rows_len, tape_ids, Nat.reduceAdd, Nat.reduceMul, Nat.reduceSub, Nat.reduceLT, Nat.reduceLeDiff, Nat.reduceEqDiff, Nat.reduceBEq, Int.reduceToNat, Int.reduceLT, Int.reduceLE, Int.reduceEq, Int.reduceNeg, reduceIte, reduceCtorEq, AV.viewXs, AV.viewX, avD]) (h2) (by simp [evalA, eget, hget, AV.viewXs, AV.viewX, AV.viewXP, AV.viewXPs, AV.ids, AV.idsL, subOf, closedIn, ids_box, ids_arr, allSome, dstOk, newOrOld, freshE, freshO, freshH, avD, avDp, tape_ids, zv_i64, zv_u8, zv_bool, zv_nils, zv_nilp, zv_ids]) (by simp [evalA, eget, hget, AV.viewXs, AV.viewX, AV.viewXP, AV.viewXPs, AV.ids, AV.idsL, subOf, closedIn, ids_box, ids_arr, allSome, dstOk, newOrOld, freshE, freshO, freshH, avD, avDp, tape_ids, zv_i64, zv_u8, zv_bool, zv_nils, zv_nilp, zv_ids]) (by simp [evalA, eget, hget, AV.viewXs, AV.viewX, AV.viewXP, AV.viewXPs, AV.ids, AV.idsL, subOf, closedIn, ids_box, ids_arr, allSome, dstOk, newOrOld, freshE, freshO, freshH, avD, avDp, tape_ids, zv_i64, zv_u8, zv_bool, zv_nils, zv_nilp, zv_ids]) (by simp [evalA, eget, hget, AV.viewXs, AV.viewX, AV.viewXP, AV.viewXPs, AV.ids, AV.idsL, subOf, closedIn, ids_box, ids_arr, allSome, dstOk, newOrOld, freshE, freshO, freshH, avD, avDp, tape_ids, zv_i64, zv_u8, zv_bool, zv_nils, zv_nilp, zv_ids]) (by simp [evalA, eget, hget, AV.viewXs, AV.viewX, AV.viewXP, AV.viewXPs, AV.ids, AV.idsL, subOf, closedIn, ids_box, ids_arr, allSome, dstOk, newOrOld, freshE, freshO, freshH, avD, avDp, tape_ids, zv_i64, zv_u8, zv_bool, zv_nils, zv_nilp, zv_ids]) (by simp [evalA, eget, hget, AV.viewXs, AV.viewX, AV.viewXP, AV.viewXPs, AV.ids, AV.idsL, subOf, closedIn, ids_box, ids_arr, allSome, dstOk, newOrOld, freshE, freshO, freshH, avD, avDp, tape_ids, zv_i64, zv_u8, zv_bool, zv_nils, zv_nilp, zv_ids]) (by simp [evalA, eget, hget, AV.viewXs, AV.viewX, AV.viewXP, AV.viewXPs, AV.ids, AV.idsL, subOf, closedIn, ids_box, ids_arr, allSome, dstOk, newOrOld, freshE, freshO, freshH, avD, avDp, tape_ids, zv_i64, zv_u8, zv_bool, zv_nils, zv_nilp, zv_ids]) (by simp [evalA, eget, hget, AV.viewXs, AV.viewX, AV.viewXP, AV.viewXPs, AV.ids, AV.idsL, subOf, closedIn, ids_box, ids_arr, allSome, dstOk, newOrOld, freshE, freshO, freshH, avD, avDp, tape_ids, zv_i64, zv_u8, zv_bool, zv_nils, zv_nilp, zv_ids]) (by simp [evalA, eget, hget, AV.viewXs, AV.viewX, AV.viewXP, AV.viewXPs, AV.ids, AV.idsL, subOf, closedIn, ids_box, ids_arr, allSome, dstOk, newOrOld, freshE, freshO, freshH, avD, avDp, tape_ids, zv_i64, zv_u8, zv_bool, zv_nils, zv_nilp, zv_ids]) (by simp [evalA, eget, hget, AV.viewXs, AV.viewX, AV.viewXP, AV.viewXPs, AV.ids, AV.idsL, subOf, closedIn, ids_box, ids_arr, allSome, dstOk, newOrOld, freshE, freshO, freshH, avD, avDp, tape_ids, zv_i64, zv_u8, zv_bool, zv_nils, zv_nilp, zv_ids]) ?_
  simp only [go_sem, rows_len, tape_ids, Nat.reduceAdd, Nat.reduceMul, Nat.reduceSub, Nat.reduceLT, Nat.reduceLeDiff, Nat.reduceEqDiff, Nat.reduceBEq, Int.reduceToNat, Int.reduceLT, Int.reduceLE, Int.reduceEq, Int.reduceNeg, reduceIte, reduceCtorEq]
  refine VCl.pure rfl rfl (c27 x n hn) (by simp only [go_sem, rows_len, tape_ids, Nat.reduceAdd, Nat.reduceMul, Nat.reduceSub, Nat.reduceLT, Nat.reduceLeDiff, Nat.reduceEqDiff, Nat.reduceBEq, Int.reduceToNat, Int.reduceLT, Int.reduceLE, Int.reduceEq, Int.reduceNeg, reduceIte, reduceCtorEq]; try simp) (by simp only [go_sem, rows_len, tape_ids, Nat.reduceAdd, Nat.reduceMul, Nat.reduceSub, Nat.reduceLT, Nat.reduceLeDiff, Nat.reduceEqDiff, Nat.reduceBEq, Int.reduceToNat, Int.reduceLT, Int.reduceLE, Int.reduceEq, Int.reduceNeg, reduceIte, reduceCtorEq]; try simp) (by simp only [go_sem, rows_len, tape_ids, Nat.reduceAdd, Nat.reduceMul, Nat.reduceSub, Nat.reduceLT, Nat.reduceLeDiff, Nat.reduceEqDiff, Nat.reduceBEq, Int.reduceToNat, Int.reduceLT, Int.reduceLE, Int.reduceEq, Int.reduceNeg, reduceIte, reduceCtorEq]; try simp) (by simp only [go_sem, rows_len, tape_ids, Nat.reduceAdd, Nat.reduceMul, Nat.reduceSub, Nat.reduceLT, Nat.reduceLeDiff, Nat.reduceEqDiff, Nat.reduceBEq, Int.reduceToNat, Int.reduceLT, Int.reduceLE, Int.reduceEq, Int.reduceNeg, reduceIte, reduceCtorEq]; try simp) (by simp only [go_sem, rows_len, tape_ids, Nat.reduceAdd, Nat.reduceMul, Nat.reduceSub, Nat.reduceLT, Nat.reduceLeDiff, Nat.reduceEqDiff, Nat.reduceBEq, Int.reduceToNat, Int.reduceLT, Int.reduceLE, Int.reduceEq, Int.reduceNeg, reduceIte, reduceCtorEq]; try simp) (by simp only [go_sem, rows_len, tape_ids, Nat.reduceAdd, Nat.reduceMul, Nat.reduceSub, Nat.reduceLT, Nat.reduceLeDiff, Nat.reduceEqDiff, Nat.reduceBEq, Int.reduceToNat, Int.reduceLT, Int.reduceLE, Int.reduceEq, Int.reduceNeg, reduceIte, reduceCtorEq]; try simp) ?_
  simp only [go_sem, rows_len, tape_ids, Nat.reduceAdd, Nat.reduceMul, Nat.reduceSub, Nat.reduceLT, Nat.reduceLeDiff, Nat.reduceEqDiff, Nat.reduceBEq, Int.reduceToNat, Int.reduceLT, Int.reduceLE, Int.reduceEq, Int.reduceNeg, reduceIte, reduceCtorEq]
  refine hK _ ?_
  clear hK K
  (repeat with_reducible first | refine Walk.seq ?_ | refine Walk.block ?_ | refine Walk.skip ?_ | refine Walk.inBlock ?_ | refine Walk.label ?_ | refine Walk.scope ?_ | refine Walk.inScope ?_ | refine Walk.exit rfl ?_)
  refine Walk.ret ⟨?_, by simp [subH, hget]⟩
  simp only [retAV, eget, List.map_cons, List.map_nil, reduceIte, Nat.reduceEqDiff, if_true, if_false]

/-- Tape.Range -/
theorem c19 (id : Nat) (l : List Int) (a : Nat) (lo hi : Int) (hl : l.length ≤ 600) (ha : a ≤ l.length) (h0 : -1000 ≤ lo) (h1 : lo ≤ hi) (h2 : hi ≤ 100000) :
    ∃ x a', a' ≤ l.length ∧ lo ≤ x ∧ x ≤ hi ∧ ACalls Try.prog 19 [.box id 0, .d (.int .i64 lo), .d (.int .i64 hi)] [(id, some (tape l a))] (.d (.int .i64 x)) [(id, some (tape l a'))] := by
  obtain ⟨x, a', h3, h4, h5, h6⟩ := c29 id l a (hi - lo + 1) hl ha (by omega)
  refine ⟨lo + x, a', h3, by omega, by omega, ?_⟩
  refine ACalls.of_sem (n := 15) (id + 1) [6] (fn := Try.f19) Try.func19 rfl rfl (.one rfl) rfl (by simp) (by intro i; simp only [hget]; split <;> simp; omega) ?_
  (repeat with_reducible first | refine Walk.seq ?_ | refine Walk.block ?_ | refine Walk.skip ?_ | refine Walk.inBlock ?_ | refine Walk.label ?_ | refine Walk.scope ?_ | refine Walk.inScope ?_ | refine Walk.exit rfl ?_)
  refine Walk.region' rfl fun K hK => ?_
  simp only [go_sem, rows_len, tape_ids, Nat.reduceAdd, Nat.reduceMul, Nat.reduceSub, Nat.reduceLT, Nat.reduceLeDiff, Nat.reduceEqDiff, Nat.reduceBEq, Int.reduceToNat, Int.reduceLT, Int.reduceLE, Int.reduceEq, Int.reduceNeg, reduceIte, reduceCtorEq]
  refine hK _ ?_
  clear hK K
  (repeat with_reducible first | refine Walk.seq ?_ | refine Walk.block ?_ | refine Walk.skip ?_ | refine Walk.inBlock ?_ | refine Walk.label ?_ | refine Walk.scope ?_ | refine Walk.inScope ?_ | refine Walk.exit rfl ?_)
  refine Walk.region' rfl fun K hK => ?_
  simp only [go_sem, rows_len, tape_ids, Nat.reduceAdd, Nat.reduceMul, Nat.reduceSub, Nat.reduceLT, Nat.reduceLeDiff, Nat.reduceEqDiff, Nat.reduceBEq, Int.reduceToNat, Int.reduceLT, Int.reduceLE, Int.reduceEq, Int.reduceNeg, reduceIte, reduceCtorEq, wrap64 (x := hi - lo) (by omega) (by omega), wrap64 (x := hi - lo + 1) (by omega) (by omega)]
  refine VCl.sub [(id, some (tape l a))] [] rfl (by simp only [go_sem, rows_len, tape_ids, Nat.reduceAdd, Nat.reduceMul, Nat.reduceSub, Nat.reduceLT, Nat.reduceLeDiff, Nat.reduceEqDiff, Nat.reduceBEq, Int.reduceToNat, Int.reduceLT, Int.reduceLE, Int.reduceEq, Int.reduceNeg, reduceIte, reduceCtorEq, AV.viewXs, AV.viewX, avD, wrap64 (x := lo + x) (by omega) (by omega)]) (h6) (by simp [evalA, eget, hget, AV.viewXs, AV.viewX, AV.viewXP, AV.viewXPs, AV.ids, AV.idsL, subOf, closedIn, ids_box, ids_arr, allSome, dstOk, newOrOld, freshE, freshO, freshH, avD, avDp, tape_ids, zv_i64, zv_u8, zv_bool, zv_nils, zv_nilp, zv_ids, wrap64 (x := lo + x) (by omega) (by omega)]) (by simp [evalA, eget, hget, AV.viewXs, AV.viewX, AV.viewXP, AV.viewXPs, AV.ids, AV.idsL, subOf, closedIn, ids_box, ids_arr, allSome, dstOk, newOrOld, freshE, freshO, freshH, avD, avDp, tape_ids, zv_i64, zv_u8, zv_bool, zv_nils, zv_nilp, zv_ids, wrap64 (x := lo + x) (by omega) (by omega)]) (by simp [evalA, eget, hget, AV.viewXs, AV.viewX, AV.viewXP, AV.viewXPs, AV.ids, AV.idsL, subOf, closedIn, ids_box, ids_arr, allSome, dstOk, newOrOld, freshE, freshO, freshH, avD, avDp, tape_ids, zv_i64, zv_u8, zv_bool, zv_nils, zv_nilp, zv_ids, wrap64 (x := lo + x) (by omega) (by omega)]) (by simp [evalA, eget, hget, AV.viewXs, AV.viewX, AV.viewXP, AV.viewXPs, AV.ids, AV.idsL, subOf, closedIn, ids_box, ids_arr, allSome, dstOk, newOrOld, freshE, freshO, freshH, avD, avDp, tape_ids, zv_i64, zv_u8, zv_bool, zv_nils, zv_nilp, zv_ids, wrap64 (x := lo + x) (by omega) (by omega)]) (by simp [evalA, eget, hget, AV.viewXs, AV.viewX, AV.viewXP, AV.viewXPs, AV.ids, AV.idsL, subOf, closedIn, ids_box, ids_arr, allSome, dstOk, newOrOld, freshE, freshO, freshH, avD, avDp, tape_ids, zv_i64, zv_u8, zv_bool, zv_nils, zv_nilp, zv_ids, wrap64 (x := lo + x) (by omega) (by omega)]) (by simp [evalA, eget, hget, AV.viewXs, AV.viewX, AV.viewXP, AV.viewXPs, AV.ids, AV.idsL, subOf, closedIn, ids_box, ids_arr, allSome, dstOk, newOrOld, freshE, freshO, freshH, avD, avDp, tape_ids, zv_i64, zv_u8, zv_bool, zv_nils, zv_nilp, zv_ids, wrap64 (x := lo + x) (by omega) (by omega)]) (by simp [evalA, eget, hget, AV.viewXs, AV.viewX, AV.viewXP, AV.viewXPs, AV.ids, AV.idsL, subOf, closedIn, ids_box, ids_arr, allSome, dstOk, newOrOld, freshE, freshO, freshH, avD, avDp, tape_ids, zv_i64, zv_u8, zv_bool, zv_nils, zv_nilp, zv_ids, wrap64 (x := lo + x) (by omega) (by omega)]) (by simp [evalA, eget, hget, AV.viewXs, AV.viewX, AV.viewXP, AV.viewXPs, AV.ids, AV.idsL, subOf, closedIn, ids_box, ids_arr, allSome, dstOk, newOrOld, freshE, freshO, freshH, avD, avDp, tape_ids, zv_i64, zv_u8, zv_bool, zv_nils, zv_nilp, zv_ids, wrap64 (x := lo + x) (by omega) (by omega)]) (by simp [evalA, eget, hget, AV.viewXs, AV.viewX, AV.viewXP, AV.viewXPs, AV.ids, AV.idsL, subOf, closedIn, ids_box, ids_arr, allSome, dstOk, newOrOld, freshE, freshO, freshH, avD, avDp, tape_ids, zv_i64, zv_u8, zv_bool, zv_nils, zv_nilp, zv_ids, wrap64 (x := lo + x) (by omega) (by omega)]) (by simp [evalA, eget, hget, AV.viewXs, AV.viewX, AV.viewXP, AV.viewXPs, AV.ids, AV.idsL, subOf, closedIn, ids_box, ids_arr, allSome, dstOk, newOrOld, freshE, freshO, freshH, avD, avDp, tape_ids, zv_i64, zv_u8, zv_bool, zv_nils, zv_nilp, zv_ids, wrap64 (x := lo + x) (by omega) (by omega)]) ?_
  simp only [go_sem, rows_len, tape_ids, Nat.reduceAdd, Nat.reduceMul, Nat.reduceSub, Nat.reduceLT, Nat.reduceLeDiff, Nat.reduceEqDiff, Nat.reduceBEq, Int.reduceToNat, Int.reduceLT, Int.reduceLE, Int.reduceEq, Int.reduceNeg, reduceIte, reduceCtorEq, wrap64 (x := lo + x) (by omega) (by omega)]
  refine hK _ ?_
  clear hK K
  (repeat with_reducible first | refine Walk.seq ?_ | refine Walk.block ?_ | refine Walk.skip ?_ | refine Walk.inBlock ?_ | refine Walk.label ?_ | refine Walk.scope ?_ | refine Walk.inScope ?_ | refine Walk.exit rfl ?_)
  refine Walk.ret ⟨?_, by simp [subH, hget]⟩
  simp only [retAV, eget, List.map_cons, List.map_nil, reduceIte, Nat.reduceEqDiff, if_true, if_false]

/-- Tape.One -/
theorem c15 (id : Nat) (l : List Int) (a : Nat) (n : Int) (hl : l.length ≤ 600) (ha : a ≤ l.length) (h0 : 0 ≤ n) (hn : n ≤ 1000000) :
    ∃ b a', a' ≤ l.length ∧ ACalls Try.prog 15 [.box id 0, .d (.int .i64 n)] [(id, some (tape l a))] (.d (.bool b)) [(id, some (tape l a'))] := by
  obtain ⟨x, a', h3, h4, h5, h6⟩ := c29 id l a n hl ha hn
  refine ⟨decide (x = n - 1), a', h3, ?_⟩
  refine ACalls.of_sem (n := 11) (id + 1) [4] (fn := Try.f15) Try.func15 rfl rfl (.one rfl) rfl (by simp) (by intro i; simp only [hget]; split <;> simp; omega) ?_
  (repeat with_reducible first | refine Walk.seq ?_ | refine Walk.block ?_ | refine Walk.skip ?_ | refine Walk.inBlock ?_ | refine Walk.label ?_ | refine Walk.scope ?_ | refine Walk.inScope ?_ | refine Walk.exit rfl ?_)
  refine Walk.region' rfl fun K hK => ?_
  simp only [go_sem, rows_len, tape_ids, Nat.reduceAdd, Nat.reduceMul, Nat.reduceSub, Nat.reduceLT, Nat.reduceLeDiff, Nat.reduceEqDiff, Nat.reduceBEq, Int.reduceToNat, Int.reduceLT, Int.reduceLE, Int.reduceEq, Int.reduceNeg, reduceIte, reduceCtorEq]
  refine hK _ ?_
  clear hK K
  (repeat with_reducible first | refine Walk.seq ?_ | refine Walk.block ?_ | refine Walk.skip ?_ | refine Walk.inBlock ?_ | refine Walk.label ?_ | refine Walk.scope ?_ | refine Walk.inScope ?_ | refine Walk.exit rfl ?_)
  refine Walk.region' rfl fun K hK => ?_
  simp only [go_sem, rows_len, tape_ids, Nat.reduceAdd, Nat.reduceMul, Nat.reduceSub, Nat.reduceLT, Nat.reduceLeDiff, Nat.reduceEqDiff, Nat.reduceBEq, Int.reduceToNat, Int.reduceLT, Int.reduceLE, Int.reduceEq, Int.reduceNeg, reduceIte, reduceCtorEq]
  refine VCl.sub [(id, some (tape l a))] [] rfl (by simp only [go_sem, rows_len, tape_ids, Nat.reduceAdd, Nat.reduceMul, Nat.reduceSub, Nat.reduceLT, Nat.reduceLeDiff, Nat.reduceEqDiff, Nat.reduceBEq, Int.reduceToNat, Int.reduceLT, Int.reduceLE, Int.reduceEq, Int.reduceNeg, reduceIte, reduceCtorEq, AV.viewXs, AV.viewX, avD, wrap64 (x := n - 1) (by omega) (by omega)]) (h6) (by simp [evalA, eget, hget, AV.viewXs, AV.viewX, AV.viewXP, AV.viewXPs, AV.ids, AV.idsL, subOf, closedIn, ids_box, ids_arr, allSome, dstOk, newOrOld, freshE, freshO, freshH, avD, avDp, tape_ids, zv_i64, zv_u8, zv_bool, zv_nils, zv_nilp, zv_ids, wrap64 (x := n - 1) (by omega) (by omega)]) (by simp [evalA, eget, hget, AV.viewXs, AV.viewX, AV.viewXP, AV.viewXPs, AV.ids, AV.idsL, subOf, closedIn, ids_box, ids_arr, allSome, dstOk, newOrOld, freshE, freshO, freshH, avD, avDp, tape_ids, zv_i64, zv_u8, zv_bool, zv_nils, zv_nilp, zv_ids, wrap64 (x := n - 1) (by omega) (by omega)]) (by simp [evalA, eget, hget, AV.viewXs, AV.viewX, AV.viewXP, AV.viewXPs, AV.ids, AV.idsL, subOf, closedIn, ids_box, ids_arr, allSome, dstOk, newOrOld, freshE, freshO, freshH, avD, avDp, tape_ids, zv_i64, zv_u8, zv_bool, zv_nils, zv_nilp, zv_ids, wrap64 (x := n - 1) (by omega) (by omega)]) (by simp [evalA, eget, hget, AV.viewXs, AV.viewX, AV.viewXP, AV.viewXPs, AV.ids, AV.idsL, subOf, closedIn, ids_box, ids_arr, allSome, dstOk, newOrOld, freshE, freshO, freshH, avD, avDp, tape_ids, zv_i64, zv_u8, zv_bool, zv_nils, zv_nilp, zv_ids, wrap64 (x := n - 1) (by omega) (by omega)]) (by simp [evalA, eget, hget, AV.viewXs, AV.viewX, AV.viewXP, AV.viewXPs, AV.ids, AV.idsL, subOf, closedIn, ids_box, ids_arr, allSome, dstOk, newOrOld, freshE, freshO, freshH, avD, avDp, tape_ids, zv_i64, zv_u8, zv_bool, zv_nils, zv_nilp, zv_ids, wrap64 (x := n - 1) (by omega) (by omega)]) (by simp [evalA, eget, hget, AV.viewXs, AV.viewX, AV.viewXP, AV.viewXPs, AV.ids, AV.idsL, subOf, closedIn, ids_box, ids_arr, allSome, dstOk, newOrOld, freshE, freshO, freshH, avD, avDp, tape_ids, zv_i64, zv_u8, zv_bool, zv_nils, zv_nilp, zv_ids, wrap64 (x := n - 1) (by omega) (by omega)]) (by simp [evalA, eget, hget, AV.viewXs, AV.viewX, AV.viewXP, AV.viewXPs, AV.ids, AV.idsL, subOf, closedIn, ids_box, ids_arr, allSome, dstOk, newOrOld, freshE, freshO, freshH, avD, avDp, tape_ids, zv_i64, zv_u8, zv_bool, zv_nils, zv_nilp, zv_ids, wrap64 (x := n - 1) (by omega) (by omega)]) (by simp [evalA, eget, hget, AV.viewXs, AV.viewX, AV.viewXP, AV.viewXPs, AV.ids, AV.idsL, subOf, closedIn, ids_box, ids_arr, allSome, dstOk, newOrOld, freshE, freshO, freshH, avD, avDp, tape_ids, zv_i64, zv_u8, zv_bool, zv_nils, zv_nilp, zv_ids, wrap64 (x := n - 1) (by omega) (by omega)]) (by simp [evalA, eget, hget, AV.viewXs, AV.viewX, AV.viewXP, AV.viewXPs, AV.ids, AV.idsL, subOf, closedIn, ids_box, ids_arr, allSome, dstOk, newOrOld, freshE, freshO, freshH, avD, avDp, tape_ids, zv_i64, zv_u8, zv_bool, zv_nils, zv_nilp, zv_ids, wrap64 (x := n - 1) (by omega) (by omega)]) (by simp [evalA, eget, hget, AV.viewXs, AV.viewX, AV.viewXP, AV.viewXPs, AV.ids, AV.idsL, subOf, closedIn, ids_box, ids_arr, allSome, dstOk, newOrOld, freshE, freshO, freshH, avD, avDp, tape_ids, zv_i64, zv_u8, zv_bool, zv_nils, zv_nilp, zv_ids, wrap64 (x := n - 1) (by omega) (by omega)]) ?_
  simp only [go_sem, rows_len, tape_ids, Nat.reduceAdd, Nat.reduceMul, Nat.reduceSub, Nat.reduceLT, Nat.reduceLeDiff, Nat.reduceEqDiff, Nat.reduceBEq, Int.reduceToNat, Int.reduceLT, Int.reduceLE, Int.reduceEq, Int.reduceNeg, reduceIte, reduceCtorEq, wrap64 (x := n - 1) (by omega) (by omega)]
  refine hK _ ?_
  clear hK K
  (repeat with_reducible first | refine Walk.seq ?_ | refine Walk.block ?_ | refine Walk.skip ?_ | refine Walk.inBlock ?_ | refine Walk.label ?_ | refine Walk.scope ?_ | refine Walk.inScope ?_ | refine Walk.exit rfl ?_)
  refine Walk.ret ⟨?_, by simp [subH, hget]⟩
  simp only [retAV, eget, List.map_cons, List.map_nil, reduceIte, Nat.reduceEqDiff, if_true, if_false]

/-- Tape.Pick -/
theorem c44 (id : Nat) (l : List Int) (a : Nat) (m : List Int) (hl : l.length ≤ 600) (ha : a ≤ l.length) (h0 : m ≠ []) (hm : m.length ≤ 1000000) :
    ∃ x a', a' ≤ l.length ∧ x ∈ m ∧ ACalls Try.prog 44 [.box id 0, .d (.sl (ints m))] [(id, some (tape l a))] (.d (.int .i64 x)) [(id, some (tape l a'))] := by
  obtain ⟨x, a', h3, h4, h5, h6⟩ := c29 id l a m.length hl ha (by omega)
  have hpos : 0 < m.length := List.length_pos_iff.2 h0
  obtain ⟨j, rfl⟩ : ∃ j : Nat, x = j := ⟨x.toNat, by omega⟩
  have hj : j < m.length := by omega
  refine ⟨m[j], a', h3, by simp, ?_⟩
  refine ACalls.of_sem (n := 12) (id + 1) [4] (fn := Try.f44) Try.func44 rfl rfl (.one rfl) rfl (by simp) (by intro i; simp only [hget]; split <;> simp; omega) ?_
  (repeat with_reducible first | refine Walk.seq ?_ | refine Walk.block ?_ | refine Walk.skip ?_ | refine Walk.inBlock ?_ | refine Walk.label ?_ | refine Walk.scope ?_ | refine Walk.inScope ?_ | refine Walk.exit rfl ?_)
  refine Walk.region' rfl fun K hK => ?_
  simp only [go_sem, rows_len, tape_ids, Nat.reduceAdd, Nat.reduceMul, Nat.reduceSub, Nat.reduceLT, Nat.reduceLeDiff, Nat.reduceEqDiff, Nat.reduceBEq, Int.reduceToNat, Int.reduceLT, Int.reduceLE, Int.reduceEq, Int.reduceNeg, reduceIte, reduceCtorEq]
  refine hK _ ?_
  clear hK K
  (repeat with_reducible first | refine Walk.seq ?_ | refine Walk.block ?_ | refine Walk.skip ?_ | refine Walk.inBlock ?_ | refine Walk.label ?_ | refine Walk.scope ?_ | refine Walk.inScope ?_ | refine Walk.exit rfl ?_)
  refine Walk.region' rfl fun K hK => ?_
  simp only [go_sem, rows_len, tape_ids, Nat.reduceAdd, Nat.reduceMul, Nat.reduceSub, Nat.reduceLT, Nat.reduceLeDiff, Nat.reduceEqDiff, Nat.reduceBEq, Int.reduceToNat, Int.reduceLT, Int.reduceLE, Int.reduceEq, Int.reduceNeg, reduceIte, reduceCtorEq]
  refine VCl.sub [(id, some (tape l a))] [] rfl (by simp only [go_sem, rows_len, tape_ids, Nat.reduceAdd, Nat.reduceMul, Nat.reduceSub, Nat.reduceLT, Nat.reduceLeDiff, Nat.reduceEqDiff, Nat.reduceBEq, Int.reduceToNat, Int.reduceLT, Int.reduceLE, Int.reduceEq, Int.reduceNeg, reduceIte, reduceCtorEq, AV.viewXs, AV.viewX, avD, ints_getD hj, hj]) (h6) (by simp [evalA, eget, hget, AV.viewXs, AV.viewX, AV.viewXP, AV.viewXPs, AV.ids, AV.idsL, subOf, closedIn, ids_box, ids_arr, allSome, dstOk, newOrOld, freshE, freshO, freshH, avD, avDp, tape_ids, zv_i64, zv_u8, zv_bool, zv_nils, zv_nilp, zv_ids, ints_getD hj, hj]) (by simp [evalA, eget, hget, AV.viewXs, AV.viewX, AV.viewXP, AV.viewXPs, AV.ids, AV.idsL, subOf, closedIn, ids_box, ids_arr, allSome, dstOk, newOrOld, freshE, freshO, freshH, avD, avDp, tape_ids, zv_i64, zv_u8, zv_bool, zv_nils, zv_nilp, zv_ids, ints_getD hj, hj]) (by simp [evalA, eget, hget, AV.viewXs, AV.viewX, AV.viewXP, AV.viewXPs, AV.ids, AV.idsL, subOf, closedIn, ids_box, ids_arr, allSome, dstOk, newOrOld, freshE, freshO, freshH, avD, avDp, tape_ids, zv_i64, zv_u8, zv_bool, zv_nils, zv_nilp, zv_ids, ints_getD hj, hj]) (by simp [evalA, eget, hget, AV.viewXs, AV.viewX, AV.viewXP, AV.viewXPs, AV.ids, AV.idsL, subOf, closedIn, ids_box, ids_arr, allSome, dstOk, newOrOld, freshE, freshO, freshH, avD, avDp, tape_ids, zv_i64, zv_u8, zv_bool, zv_nils, zv_nilp, zv_ids, ints_getD hj, hj]) (by simp [evalA, eget, hget, AV.viewXs, AV.viewX, AV.viewXP, AV.viewXPs, AV.ids, AV.idsL, subOf, closedIn, ids_box, ids_arr, allSome, dstOk, newOrOld, freshE, freshO, freshH, avD, avDp, tape_ids, zv_i64, zv_u8, zv_bool, zv_nils, zv_nilp, zv_ids, ints_getD hj, hj]) (by simp [evalA, eget, hget, AV.viewXs, AV.viewX, AV.viewXP, AV.viewXPs, AV.ids, AV.idsL, subOf, closedIn, ids_box, ids_arr, allSome, dstOk, newOrOld, freshE, freshO, freshH, avD, avDp, tape_ids, zv_i64, zv_u8, zv_bool, zv_nils, zv_nilp, zv_ids, ints_getD hj, hj]) (by simp [evalA, eget, hget, AV.viewXs, AV.viewX, AV.viewXP, AV.viewXPs, AV.ids, AV.idsL, subOf, closedIn, ids_box, ids_arr, allSome, dstOk, newOrOld, freshE, freshO, freshH, avD, avDp, tape_ids, zv_i64, zv_u8, zv_bool, zv_nils, zv_nilp, zv_ids, ints_getD hj, hj]) (by simp [evalA, eget, hget, AV.viewXs, AV.viewX, AV.viewXP, AV.viewXPs, AV.ids, AV.idsL, subOf, closedIn, ids_box, ids_arr, allSome, dstOk, newOrOld, freshE, freshO, freshH, avD, avDp, tape_ids, zv_i64, zv_u8, zv_bool, zv_nils, zv_nilp, zv_ids, ints_getD hj, hj]) (by simp [evalA, eget, hget, AV.viewXs, AV.viewX, AV.viewXP, AV.viewXPs, AV.ids, AV.idsL, subOf, closedIn, ids_box, ids_arr, allSome, dstOk, newOrOld, freshE, freshO, freshH, avD, avDp, tape_ids, zv_i64, zv_u8, zv_bool, zv_nils, zv_nilp, zv_ids, ints_getD hj, hj]) (by simp [evalA, eget, hget, AV.viewXs, AV.viewX, AV.viewXP, AV.viewXPs, AV.ids, AV.idsL, subOf, closedIn, ids_box, ids_arr, allSome, dstOk, newOrOld, freshE, freshO, freshH, avD, avDp, tape_ids, zv_i64, zv_u8, zv_bool, zv_nils, zv_nilp, zv_ids, ints_getD hj, hj]) ?_
  simp only [go_sem, rows_len, tape_ids, Nat.reduceAdd, Nat.reduceMul, Nat.reduceSub, Nat.reduceLT, Nat.reduceLeDiff, Nat.reduceEqDiff, Nat.reduceBEq, Int.reduceToNat, Int.reduceLT, Int.reduceLE, Int.reduceEq, Int.reduceNeg, reduceIte, reduceCtorEq, ints_getD hj, hj]
  refine hK _ ?_
  clear hK K
  (repeat with_reducible first | refine Walk.seq ?_ | refine Walk.block ?_ | refine Walk.skip ?_ | refine Walk.inBlock ?_ | refine Walk.label ?_ | refine Walk.scope ?_ | refine Walk.inScope ?_ | refine Walk.exit rfl ?_)
  refine Walk.ret ⟨?_, by simp [subH, hget]⟩
  simp only [retAV, eget, List.map_cons, List.map_nil, reduceIte, Nat.reduceEqDiff, if_true, if_false]

theorem ints_take (l : List Int) (k : Nat) : (ints l).take k = ints (l.take k) := by simp [ints]
theorem ints_drop (l : List Int) (k : Nat) : (ints l).drop k = ints (l.drop k) := by simp [ints]
theorem ints_snoc (l : List Int) (x : Int) : ints l ++ [[.int .i64 x]] = ints (l ++ [x]) := by simp [ints]
theorem ints_head (l : List Int) : ∀ e ∈ (ints l).head?, e.length = 1 := by cases l <;> simp [ints]

/-- Tape.New -/
theorem c12 (l : List Int) (id : Nat) : ∃ l', l'.length ≤ 600 ∧ ACalls Try.prog 12 [.d (.sl (ints l))] [] (.box id 0) [(id, some (tape l' 0))] := by
  have : ∃ r h', (∃ l' : List Int, l'.length ≤ 600 ∧ r = .box 10 0 ∧ h' = [(10, some (tape l' 0))]) ∧ ACalls Try.prog 12 [.d (.sl (ints l))] [] r h' := by
    refine ACalls.of_rel (n := 11) _ 0 [2] (fn := Try.f12) Try.func12 rfl rfl (.one rfl) rfl (by simp) (by intro i; simp [hget]) ?_
    (repeat with_reducible first | refine Walk.seq ?_ | refine Walk.block ?_ | refine Walk.skip ?_ | refine Walk.inBlock ?_ | refine Walk.label ?_ | refine Walk.scope ?_ | refine Walk.inScope ?_ | refine Walk.exit rfl ?_)
    refine Walk.region' rfl fun K hK => ?_
    simp only [go_sem, rows_len, tape_ids, Nat.reduceAdd, Nat.reduceMul, Nat.reduceSub, Nat.reduceLT, Nat.reduceLeDiff, Nat.reduceEqDiff, Nat.reduceBEq, Int.reduceToNat, Int.reduceLT, Int.reduceLE, Int.reduceEq, Int.reduceNeg, reduceIte, reduceCtorEq]
    refine hK _ ?_
    clear hK K
    (repeat with_reducible first | refine Walk.seq ?_ | refine Walk.block ?_ | refine Walk.skip ?_ | refine Walk.inBlock ?_ | refine Walk.label ?_ | refine Walk.scope ?_ | refine Walk.inScope ?_ | refine Walk.exit rfl ?_)
    refine Walk.region' rfl fun K hK => ?_
    simp only [go_sem, rows_len, tape_ids, Nat.reduceAdd, Nat.reduceMul, Nat.reduceSub, Nat.reduceLT, Nat.reduceLeDiff, Nat.reduceEqDiff, Nat.reduceBEq, Int.reduceToNat, Int.reduceLT, Int.reduceLE, Int.reduceEq, Int.reduceNeg, reduceIte, reduceCtorEq]
    refine hK _ ?_
    clear hK K
    (repeat with_reducible first | refine Walk.seq ?_ | refine Walk.block ?_ | refine Walk.skip ?_ | refine Walk.inBlock ?_ | refine Walk.label ?_ | refine Walk.scope ?_ | refine Walk.inScope ?_ | refine Walk.exit rfl ?_)
    refine Walk.cond rfl (fun h1 => ?_) (fun h1 => ?_)
    · simp at h1
      have e1 : (600 : Int) ≤ l.length := by omega
      (repeat with_reducible first | refine Walk.seq ?_ | refine Walk.block ?_ | refine Walk.skip ?_ | refine Walk.inBlock ?_ | refine Walk.label ?_ | refine Walk.scope ?_ | refine Walk.inScope ?_ | refine Walk.exit rfl ?_)
      refine Walk.region' rfl fun K hK => ?_
      simp only [go_sem, rows_len, tape_ids, Nat.reduceAdd, Nat.reduceMul, Nat.reduceSub, Nat.reduceLT, Nat.reduceLeDiff, Nat.reduceEqDiff, Nat.reduceBEq, Int.reduceToNat, Int.reduceLT, Int.reduceLE, Int.reduceEq, Int.reduceNeg, reduceIte, reduceCtorEq, e1, ints_take]
      refine ⟨ints_head l, hK _ ?_⟩
      clear hK K
      (repeat with_reducible first | refine Walk.seq ?_ | refine Walk.block ?_ | refine Walk.skip ?_ | refine Walk.inBlock ?_ | refine Walk.label ?_ | refine Walk.scope ?_ | refine Walk.inScope ?_ | refine Walk.exit rfl ?_)
      refine Walk.region' rfl fun K hK => ?_
      simp only [go_sem, rows_len, tape_ids, Nat.reduceAdd, Nat.reduceMul, Nat.reduceSub, Nat.reduceLT, Nat.reduceLeDiff, Nat.reduceEqDiff, Nat.reduceBEq, Int.reduceToNat, Int.reduceLT, Int.reduceLE, Int.reduceEq, Int.reduceNeg, reduceIte, reduceCtorEq]
      refine hK _ ?_
      clear hK K
      (repeat with_reducible first | refine Walk.seq ?_ | refine Walk.block ?_ | refine Walk.skip ?_ | refine Walk.inBlock ?_ | refine Walk.label ?_ | refine Walk.scope ?_ | refine Walk.inScope ?_ | refine Walk.exit rfl ?_)
      exact Walk.ret ⟨[(10, some (tape (l.take 600) 0))], by simp [subH, hget, tape], l.take 600, by simp; omega, by simp [retAV, eget], rfl⟩
    · simp at h1
      (repeat with_reducible first | refine Walk.seq ?_ | refine Walk.block ?_ | refine Walk.skip ?_ | refine Walk.inBlock ?_ | refine Walk.label ?_ | refine Walk.scope ?_ | refine Walk.inScope ?_ | refine Walk.exit rfl ?_)
      refine Walk.region' rfl fun K hK => ?_
      simp only [go_sem, rows_len, tape_ids, Nat.reduceAdd, Nat.reduceMul, Nat.reduceSub, Nat.reduceLT, Nat.reduceLeDiff, Nat.reduceEqDiff, Nat.reduceBEq, Int.reduceToNat, Int.reduceLT, Int.reduceLE, Int.reduceEq, Int.reduceNeg, reduceIte, reduceCtorEq]
      refine hK _ ?_
      clear hK K
      (repeat with_reducible first | refine Walk.seq ?_ | refine Walk.block ?_ | refine Walk.skip ?_ | refine Walk.inBlock ?_ | refine Walk.label ?_ | refine Walk.scope ?_ | refine Walk.inScope ?_ | refine Walk.exit rfl ?_)
      exact Walk.ret ⟨[(10, some (tape l 0))], by simp [subH, hget, tape], l, by omega, by simp [retAV, eget], rfl⟩
  obtain ⟨r, h', ⟨l', h1, rfl, rfl⟩, h2⟩ := this
  refine ⟨l', h1, ?_⟩
  have := h2.swap 10 id
  simpa [AV.rens, AV.ren, renL, AObj.ren, tape, swp] using this

/-- Tape.State -/
theorem c14a (l : List Int) (a n : Nat) (hl : l.length ≤ 600) (ha : a ≤ l.length) (hn : n ≤ 10000) :
    ∃ r h', (∃ st : List Int, ∃ a', a' ≤ l.length ∧ st.length = n ∧ (∀ x ∈ st, -1 ≤ x ∧ x ≤ 1) ∧ r = .arr 1 0 n ∧ h' = [(0, some (tape l a')), (1, some (.arr 3 1 (ints st)))]) ∧
      ACalls Try.prog 14 [.box 0 0, .d (.int .i64 n)] [(0, some (tape l a))] r h' := by
  refine ACalls.of_rel (n := 18) _ 1 [4] (fn := Try.f14) Try.func14 rfl rfl (.one rfl) rfl (by simp) (by intro i; simp only [hget]; split <;> simp; omega) ?_
  (repeat with_reducible first | refine Walk.seq ?_ | refine Walk.block ?_ | refine Walk.skip ?_ | refine Walk.inBlock ?_ | refine Walk.label ?_ | refine Walk.scope ?_ | refine Walk.inScope ?_ | refine Walk.exit rfl ?_)
  refine Walk.region' rfl fun K hK => ?_
  simp only [go_sem, rows_len, tape_ids, Nat.reduceAdd, Nat.reduceMul, Nat.reduceSub, Nat.reduceLT, Nat.reduceLeDiff, Nat.reduceEqDiff, Nat.reduceBEq, Int.reduceToNat, Int.reduceLT, Int.reduceLE, Int.reduceEq, Int.reduceNeg, reduceIte, reduceCtorEq]
  refine hK _ ?_
  clear hK K
  (repeat with_reducible first | refine Walk.seq ?_ | refine Walk.block ?_ | refine Walk.skip ?_ | refine Walk.inBlock ?_ | refine Walk.label ?_ | refine Walk.scope ?_ | refine Walk.inScope ?_ | refine Walk.exit rfl ?_)
  refine Walk.region' rfl fun K hK => ?_
  simp only [go_sem, rows_len, tape_ids, Nat.reduceAdd, Nat.reduceMul, Nat.reduceSub, Nat.reduceLT, Nat.reduceLeDiff, Nat.reduceEqDiff, Nat.reduceBEq, Int.reduceToNat, Int.reduceLT, Int.reduceLE, Int.reduceEq, Int.reduceNeg, reduceIte, reduceCtorEq]
  refine hK _ ?_
  clear hK K
  (repeat with_reducible first | refine Walk.seq ?_ | refine Walk.block ?_ | refine Walk.skip ?_ | refine Walk.inBlock ?_ | refine Walk.label ?_ | refine Walk.scope ?_ | refine Walk.inScope ?_ | refine Walk.exit rfl ?_)
  refine Walk.region' rfl fun K hK => ?_
  simp only [go_sem, rows_len, tape_ids, Nat.reduceAdd, Nat.reduceMul, Nat.reduceSub, Nat.reduceLT, Nat.reduceLeDiff, Nat.reduceEqDiff, Nat.reduceBEq, Int.reduceToNat, Int.reduceLT, Int.reduceLE, Int.reduceEq, Int.reduceNeg, reduceIte, reduceCtorEq]
  refine hK _ ?_
  clear hK K
  refine Walk.up 1 3 1 [(6, .d (.int .i64 (0 : Nat))), (5, .arr 1 0 0), (0, .box 0 0), (1, .d (.int .i64 n))] [(0, some (tape l a))] (by simp [upE, upV, eget]) (by simp [upH, upO_refl, hget]) (by omega) (by simp [hget]) (by simp [freshE, AV.ids]) (by simp [freshH, freshO, tape_ids]) ?_
  (repeat with_reducible first | refine Walk.seq ?_ | refine Walk.block ?_ | refine Walk.skip ?_ | refine Walk.inBlock ?_ | refine Walk.label ?_ | refine Walk.scope ?_ | refine Walk.inScope ?_ | refine Walk.exit rfl ?_)
  refine Walk.loop ?_
  refine Walk.loopI (G := List Int × Nat) (fun g => ⟨[(6, .d (.int .i64 g.1.length)), (5, .arr 1 0 g.1.length), (0, .box 0 0), (1, .d (.int .i64 n))], [(1, some (.arr 3 1 (ints g.1))), (0, some (tape l g.2))]⟩)
    (fun g => g.1.length ≤ n ∧ g.2 ≤ l.length ∧ ∀ x ∈ g.1, -1 ≤ x ∧ x ≤ 1) (fun g => n - g.1.length) (fun g ⟨hi, hg2, hg3⟩ ih => ?_) ([], a) ⟨by simp, ha, by simp⟩
  obtain ⟨st, a1⟩ := g
  simp only at hi hg2 hg3
  (repeat with_reducible first | refine Walk.seq ?_ | refine Walk.block ?_ | refine Walk.skip ?_ | refine Walk.inBlock ?_ | refine Walk.label ?_ | refine Walk.scope ?_ | refine Walk.inScope ?_ | refine Walk.exit rfl ?_)
  refine Walk.region' rfl fun K hK => ?_
  simp only [go_sem, rows_len, tape_ids, Nat.reduceAdd, Nat.reduceMul, Nat.reduceSub, Nat.reduceLT, Nat.reduceLeDiff, Nat.reduceEqDiff, Nat.reduceBEq, Int.reduceToNat, Int.reduceLT, Int.reduceLE, Int.reduceEq, Int.reduceNeg, reduceIte, reduceCtorEq]
  refine hK _ ?_
  clear hK K
  (repeat with_reducible first | refine Walk.seq ?_ | refine Walk.block ?_ | refine Walk.skip ?_ | refine Walk.inBlock ?_ | refine Walk.label ?_ | refine Walk.scope ?_ | refine Walk.inScope ?_ | refine Walk.exit rfl ?_)
  refine Walk.cond rfl (fun hc => ?_) (fun hc => ?_)
  · simp only [decide_eq_true_eq] at hc
    obtain ⟨x, a2, k1, k2, k3, k4⟩ := c19 0 l a1 (-1) 1 hl hg2 (by omega) (by omega) (by omega)
    (repeat with_reducible first | refine Walk.seq ?_ | refine Walk.block ?_ | refine Walk.skip ?_ | refine Walk.inBlock ?_ | refine Walk.label ?_ | refine Walk.scope ?_ | refine Walk.inScope ?_ | refine Walk.exit rfl ?_)
    refine Walk.region' rfl fun K hK => ?_
    simp only [go_sem, rows_len, tape_ids, Nat.reduceAdd, Nat.reduceMul, Nat.reduceSub, Nat.reduceLT, Nat.reduceLeDiff, Nat.reduceEqDiff, Nat.reduceBEq, Int.reduceToNat, Int.reduceLT, Int.reduceLE, Int.reduceEq, Int.reduceNeg, reduceIte, reduceCtorEq]
    have b1 : (st.length + 1) * 8 ≤ 140737488355328 := by omega
    have b2 : st.length + 1 ≤ LB := by unfold LB; omega
    refine VCl.sub [(0, some (tape l a1))] [] rfl (by simp only [go_sem, rows_len, tape_ids, Nat.reduceAdd, Nat.reduceMul, Nat.reduceSub, Nat.reduceLT, Nat.reduceLeDiff, Nat.reduceEqDiff, Nat.reduceBEq, Int.reduceToNat, Int.reduceLT, Int.reduceLE, Int.reduceEq, Int.reduceNeg, reduceIte, reduceCtorEq, AV.viewXs, AV.viewX, avD, b1, b2, ints_snoc]) (k4) (by simp [evalA, eget, hget, AV.viewXs, AV.viewX, AV.viewXP, AV.viewXPs, AV.ids, AV.idsL, subOf, closedIn, ids_box, ids_arr, allSome, dstOk, newOrOld, freshE, freshO, freshH, avD, avDp, tape_ids, zv_i64, zv_u8, zv_bool, zv_nils, zv_nilp, zv_ids, b1, b2, ints_snoc]) (by simp [evalA, eget, hget, AV.viewXs, AV.viewX, AV.viewXP, AV.viewXPs, AV.ids, AV.idsL, subOf, closedIn, ids_box, ids_arr, allSome, dstOk, newOrOld, freshE, freshO, freshH, avD, avDp, tape_ids, zv_i64, zv_u8, zv_bool, zv_nils, zv_nilp, zv_ids, b1, b2, ints_snoc]) (by simp [evalA, eget, hget, AV.viewXs, AV.viewX, AV.viewXP, AV.viewXPs, AV.ids, AV.idsL, subOf, closedIn, ids_box, ids_arr, allSome, dstOk, newOrOld, freshE, freshO, freshH, avD, avDp, tape_ids, zv_i64, zv_u8, zv_bool, zv_nils, zv_nilp, zv_ids, b1, b2, ints_snoc]) (by simp [evalA, eget, hget, AV.viewXs, AV.viewX, AV.viewXP, AV.viewXPs, AV.ids, AV.idsL, subOf, closedIn, ids_box, ids_arr, allSome, dstOk, newOrOld, freshE, freshO, freshH, avD, avDp, tape_ids, zv_i64, zv_u8, zv_bool, zv_nils, zv_nilp, zv_ids, b1, b2, ints_snoc]) (by simp [evalA, eget, hget, AV.viewXs, AV.viewX, AV.viewXP, AV.viewXPs, AV.ids, AV.idsL, subOf, closedIn, ids_box, ids_arr, allSome, dstOk, newOrOld, freshE, freshO, freshH, avD, avDp, tape_ids, zv_i64, zv_u8, zv_bool, zv_nils, zv_nilp, zv_ids, b1, b2, ints_snoc]) (by simp [evalA, eget, hget, AV.viewXs, AV.viewX, AV.viewXP, AV.viewXPs, AV.ids, AV.idsL, subOf, closedIn, ids_box, ids_arr, allSome, dstOk, newOrOld, freshE, freshO, freshH, avD, avDp, tape_ids, zv_i64, zv_u8, zv_bool, zv_nils, zv_nilp, zv_ids, b1, b2, ints_snoc]) (by simp [evalA, eget, hget, AV.viewXs, AV.viewX, AV.viewXP, AV.viewXPs, AV.ids, AV.idsL, subOf, closedIn, ids_box, ids_arr, allSome, dstOk, newOrOld, freshE, freshO, freshH, avD, avDp, tape_ids, zv_i64, zv_u8, zv_bool, zv_nils, zv_nilp, zv_ids, b1, b2, ints_snoc]) (by simp [evalA, eget, hget, AV.viewXs, AV.viewX, AV.viewXP, AV.viewXPs, AV.ids, AV.idsL, subOf, closedIn, ids_box, ids_arr, allSome, dstOk, newOrOld, freshE, freshO, freshH, avD, avDp, tape_ids, zv_i64, zv_u8, zv_bool, zv_nils, zv_nilp, zv_ids, b1, b2, ints_snoc]) (by simp [evalA, eget, hget, AV.viewXs, AV.viewX, AV.viewXP, AV.viewXPs, AV.ids, AV.idsL, subOf, closedIn, ids_box, ids_arr, allSome, dstOk, newOrOld, freshE, freshO, freshH, avD, avDp, tape_ids, zv_i64, zv_u8, zv_bool, zv_nils, zv_nilp, zv_ids, b1, b2, ints_snoc]) (by simp [evalA, eget, hget, AV.viewXs, AV.viewX, AV.viewXP, AV.viewXPs, AV.ids, AV.idsL, subOf, closedIn, ids_box, ids_arr, allSome, dstOk, newOrOld, freshE, freshO, freshH, avD, avDp, tape_ids, zv_i64, zv_u8, zv_bool, zv_nils, zv_nilp, zv_ids, b1, b2, ints_snoc]) ?_
    simp only [go_sem, rows_len, tape_ids, Nat.reduceAdd, Nat.reduceMul, Nat.reduceSub, Nat.reduceLT, Nat.reduceLeDiff, Nat.reduceEqDiff, Nat.reduceBEq, Int.reduceToNat, Int.reduceLT, Int.reduceLE, Int.reduceEq, Int.reduceNeg, reduceIte, reduceCtorEq, b1, b2, ints_snoc]
    refine hK _ ?_
    clear hK K
    (repeat with_reducible first | refine Walk.seq ?_ | refine Walk.block ?_ | refine Walk.skip ?_ | refine Walk.inBlock ?_ | refine Walk.label ?_ | refine Walk.scope ?_ | refine Walk.inScope ?_ | refine Walk.exit rfl ?_)
    refine Walk.region' rfl fun K hK => ?_
    simp only [go_sem, rows_len, tape_ids, Nat.reduceAdd, Nat.reduceMul, Nat.reduceSub, Nat.reduceLT, Nat.reduceLeDiff, Nat.reduceEqDiff, Nat.reduceBEq, Int.reduceToNat, Int.reduceLT, Int.reduceLE, Int.reduceEq, Int.reduceNeg, reduceIte, reduceCtorEq, wrap64 (x := (st.length : Int) + 1) (by omega) (by omega)]
    refine hK _ ?_
    clear hK K
    have h1 : ∀ y ∈ st ++ [x], -1 ≤ y ∧ y ≤ 1 := fun y hy => by
      rcases List.mem_append.1 hy with h | h
      · exact hg3 y h
      · simp at h; subst h; exact ⟨k2, k3⟩
    (repeat with_reducible first | refine Walk.seq ?_ | refine Walk.block ?_ | refine Walk.skip ?_ | refine Walk.inBlock ?_ | refine Walk.label ?_ | refine Walk.scope ?_ | refine Walk.inScope ?_ | refine Walk.exit rfl ?_)
    refine Walk.weaken _ (by simp [subE, eget]) (by simp [subH, hget]) (ih (st ++ [x], a2) ⟨by simp; omega, k1, h1⟩ (by simp; omega))
  · simp at hc
    (repeat with_reducible first | refine Walk.seq ?_ | refine Walk.block ?_ | refine Walk.skip ?_ | refine Walk.inBlock ?_ | refine Walk.label ?_ | refine Walk.scope ?_ | refine Walk.inScope ?_ | refine Walk.exit rfl ?_)
    refine Walk.region' rfl fun K hK => ?_
    simp only [go_sem, rows_len, tape_ids, Nat.reduceAdd, Nat.reduceMul, Nat.reduceSub, Nat.reduceLT, Nat.reduceLeDiff, Nat.reduceEqDiff, Nat.reduceBEq, Int.reduceToNat, Int.reduceLT, Int.reduceLE, Int.reduceEq, Int.reduceNeg, reduceIte, reduceCtorEq]
    refine hK _ ?_
    clear hK K
    have e : st.length = n := by omega
    (repeat with_reducible first | refine Walk.seq ?_ | refine Walk.block ?_ | refine Walk.skip ?_ | refine Walk.inBlock ?_ | refine Walk.label ?_ | refine Walk.scope ?_ | refine Walk.inScope ?_ | refine Walk.exit rfl ?_)
    exact Walk.ret ⟨[(0, some (tape l a1)), (1, some (.arr 3 1 (ints st)))], by simp [subH, hget], st, a1, hg2, e, hg3, by simp [retAV, eget, e], rfl⟩
end Go.AX
