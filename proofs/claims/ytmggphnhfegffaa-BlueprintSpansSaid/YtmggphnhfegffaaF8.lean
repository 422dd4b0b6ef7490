import Derived.Test.YtmggphnhfegffaaF7
set_option linter.unusedVariables false
set_option linter.unusedSimpArgs false
set_option maxRecDepth 4000
namespace Go.AX
open Go.Proofs
attribute [local go_sem] V1_none V1_some V_nil V_move V_assign V_pick V_bin V_un V_extract V_makeFunc V_convert V_nilCheck V_fieldAddr V_field V_load V_store V_indexAddr V_index V_slice V_slice0 V_alloc V_box V_build V_buildSlice V_makeSlice V_len V_min V_max V_append V_call V_guard VGs_some VG_tt VG_ff VG_tf VG_ft VG_u gslot ok fail po so aNew dstOk freshU addLog_none' addLog_some' St.step putL evalA eget hget argE freshE freshO freshH AV.ids AV.idsL AV.ok1 AV.cells ids_box ids_arr liveBox liveArr isArr aPick aBin aUn aExtract aMakeFunc aConvert aNilCheck aFieldAddr aField cut aLen aIndexAddr aMin aMax aIndex bnd isInt aSlice aSlice0 aLoad aAlloc aBox aStore splice aMake updIds newIds zv_i64 zv_u8 zv_bool zv_nils zv_nilp cond_bool cond_int TI.isAgg TK.isSl TK.el okL avDps avDp avD List.map_cons List.map_nil List.append_nil List.nil_append List.cons_append List.length_cons List.length_nil List.take_succ_cons List.take_zero List.drop_succ_cons List.drop_zero List.take_nil List.drop_nil List.headD_cons List.getD_cons_zero List.getD_cons_succ List.mem_cons List.not_mem_nil List.getElem?_cons_zero List.getElem?_cons_succ List.toList_toArray Option.getD_some Option.getD_none Option.bind_some Option.bind_none Option.map_some Option.map_none Option.getD Option.toList Nat.zero_add Nat.add_zero Nat.zero_le Nat.le_refl if_true if_false ite_self true_and and_true false_and and_false true_or or_true false_or or_false not_true_eq_false not_false_eq_true ne_eq cond_true cond_false Bool.true_eq_false Bool.false_eq_true forall_const decide_true decide_false implies_true true_implies and_self or_self Nat.succ_ne_zero ints_len Int.toNat_natCast Int.ofNat_lt Int.ofNat_le Int.natCast_nonneg List.length_map decide_eq_true_eq AV.views AV.view AV.viewPs AV.viewP arrsOnly newNames List.length_append List.append_assoc Bool.not_true Bool.not_false AV.ok2 Int.ofNat_inj aBuild fillR fillP aBuildSlice dense elP aAppend esOf esOfP List.forall_mem_cons forall_eq_or_imp forall_eq zD zDp ti2 ti3 ti4 ti5 ti6 ti7 ti8 ti9 ti10 ti11 ti12 ti13 ti14 ti15 ti16 ti17 ti18 ti19 ti21 ti22 ti23 ti25 ti26 ti27 ti31 ti32 ti41 ti51 ti52 ti53 ti54 ti56 ti58 ti60 ti61 ti62 ti67 ti68 ti71 ti72 ti79 ti80 ti81 ti82 ti83 ti84 ti85 ti89 ti93 ti94 ti95 ti110 ti124 ti125 ti126 ti127 ti128 ti129 ti130 ti131 ti133 ti134 ti135 ti136 ti137

def cutS (x n : Int) : Int := if n < 1 then 0 else if x.tmod n < 0 then x.tmod n + n else x.tmod n
theorem cutS_facts (x n : Int) : 0 ≤ cutS x n ∧ cutS x n ≤ max (n - 1) 0 := by
  unfold cutS
  by_cases h : n < 1
  · rw [if_pos h]; omega
  · rw [if_neg h]
    have h1 := Int.tmod_lt_of_pos x (show 0 < n by omega)
    have h2 : -n < x.tmod n := by
      have := Int.tmod_lt_of_pos (-x) (show 0 < n by omega)
      rw [Int.neg_tmod] at this; omega
    split <;> omega

theorem c27 (x n : Int) (hn : n ≤ 1000000) : ACalls Try.prog 27 [.d (.int .i64 x), .d (.int .i64 n)] [] (.d (.int .i64 (cutS x n))) [] := by
  refine ACalls.of_sem (n := 16) 0 [4] (fn := Try.f27) Try.func27 rfl rfl (.one rfl) rfl (by simp) (by simp [hget]) ?_
  (repeat with_reducible first | refine Walk.seq ?_ | refine Walk.block ?_ | refine Walk.skip ?_ | refine Walk.inBlock ?_ | refine Walk.label ?_ | refine Walk.scope ?_ | refine Walk.inScope ?_ | refine Walk.exit rfl ?_)
  refine Walk.region' rfl fun K hK => ?_
  simp only [go_sem, rows_len, Nat.reduceAdd, Nat.reduceMul, Nat.reduceSub, Nat.reduceLT, Nat.reduceLeDiff, Nat.reduceEqDiff, Nat.reduceBEq, Int.reduceToNat, Int.reduceLT, Int.reduceLE, Int.reduceEq, Int.reduceNeg, reduceIte, reduceCtorEq]
  refine hK _ ?_
  clear hK K
  (repeat with_reducible first | refine Walk.seq ?_ | refine Walk.block ?_ | refine Walk.skip ?_ | refine Walk.inBlock ?_ | refine Walk.label ?_ | refine Walk.scope ?_ | refine Walk.inScope ?_ | refine Walk.exit rfl ?_)
  refine Walk.region' rfl fun K hK => ?_
  simp only [go_sem, rows_len, Nat.reduceAdd, Nat.reduceMul, Nat.reduceSub, Nat.reduceLT, Nat.reduceLeDiff, Nat.reduceEqDiff, Nat.reduceBEq, Int.reduceToNat, Int.reduceLT, Int.reduceLE, Int.reduceEq, Int.reduceNeg, reduceIte, reduceCtorEq]
  refine hK _ ?_
  clear hK K
  (repeat with_reducible first | refine Walk.seq ?_ | refine Walk.block ?_ | refine Walk.skip ?_ | refine Walk.inBlock ?_ | refine Walk.label ?_ | refine Walk.scope ?_ | refine Walk.inScope ?_ | refine Walk.exit rfl ?_)
  refine Walk.cond rfl (fun h1 => ?_) (fun h1 => ?_)
  · (repeat with_reducible first | refine Walk.seq ?_ | refine Walk.block ?_ | refine Walk.skip ?_ | refine Walk.inBlock ?_ | refine Walk.label ?_ | refine Walk.scope ?_ | refine Walk.inScope ?_ | refine Walk.exit rfl ?_)
    refine Walk.region' rfl fun K hK => ?_
    simp only [go_sem, rows_len, Nat.reduceAdd, Nat.reduceMul, Nat.reduceSub, Nat.reduceLT, Nat.reduceLeDiff, Nat.reduceEqDiff, Nat.reduceBEq, Int.reduceToNat, Int.reduceLT, Int.reduceLE, Int.reduceEq, Int.reduceNeg, reduceIte, reduceCtorEq]
    refine hK _ ?_
    clear hK K
    (repeat with_reducible first | refine Walk.seq ?_ | refine Walk.block ?_ | refine Walk.skip ?_ | refine Walk.inBlock ?_ | refine Walk.label ?_ | refine Walk.scope ?_ | refine Walk.inScope ?_ | refine Walk.exit rfl ?_)
    refine Walk.ret ⟨?_, by simp [subH, hget]⟩
    simp only [retAV, eget, List.map_cons, List.map_nil, reduceIte, Nat.reduceEqDiff, if_true, if_false]
    simp [cutS]
    intro h; simp at h1; omega
  simp at h1
  have hne : ¬ n = 0 := by omega
  (repeat with_reducible first | refine Walk.seq ?_ | refine Walk.block ?_ | refine Walk.skip ?_ | refine Walk.inBlock ?_ | refine Walk.label ?_ | refine Walk.scope ?_ | refine Walk.inScope ?_ | refine Walk.exit rfl ?_)
  refine Walk.region' rfl fun K hK => ?_
  simp only [go_sem, rows_len, Nat.reduceAdd, Nat.reduceMul, Nat.reduceSub, Nat.reduceLT, Nat.reduceLeDiff, Nat.reduceEqDiff, Nat.reduceBEq, Int.reduceToNat, Int.reduceLT, Int.reduceLE, Int.reduceEq, Int.reduceNeg, reduceIte, reduceCtorEq, hne]
  refine hK _ ?_
  clear hK K
  (repeat with_reducible first | refine Walk.seq ?_ | refine Walk.block ?_ | refine Walk.skip ?_ | refine Walk.inBlock ?_ | refine Walk.label ?_ | refine Walk.scope ?_ | refine Walk.inScope ?_ | refine Walk.exit rfl ?_)
  refine Walk.region' rfl fun K hK => ?_
  simp only [go_sem, rows_len, Nat.reduceAdd, Nat.reduceMul, Nat.reduceSub, Nat.reduceLT, Nat.reduceLeDiff, Nat.reduceEqDiff, Nat.reduceBEq, Int.reduceToNat, Int.reduceLT, Int.reduceLE, Int.reduceEq, Int.reduceNeg, reduceIte, reduceCtorEq]
  refine hK _ ?_
  clear hK K
  (repeat with_reducible first | refine Walk.seq ?_ | refine Walk.block ?_ | refine Walk.skip ?_ | refine Walk.inBlock ?_ | refine Walk.label ?_ | refine Walk.scope ?_ | refine Walk.inScope ?_ | refine Walk.exit rfl ?_)
  refine Walk.cond rfl (fun h2 => ?_) (fun h2 => ?_)
  · simp at h2
    have h3 : -n < x.tmod n := by
      have := Int.tmod_lt_of_pos (-x) (show 0 < n by omega)
      rw [Int.neg_tmod] at this; omega
    (repeat with_reducible first | refine Walk.seq ?_ | refine Walk.block ?_ | refine Walk.skip ?_ | refine Walk.inBlock ?_ | refine Walk.label ?_ | refine Walk.scope ?_ | refine Walk.inScope ?_ | refine Walk.exit rfl ?_)
    refine Walk.region' rfl fun K hK => ?_
    simp only [go_sem, rows_len, Nat.reduceAdd, Nat.reduceMul, Nat.reduceSub, Nat.reduceLT, Nat.reduceLeDiff, Nat.reduceEqDiff, Nat.reduceBEq, Int.reduceToNat, Int.reduceLT, Int.reduceLE, Int.reduceEq, Int.reduceNeg, reduceIte, reduceCtorEq, wrap64 (x := x.tmod n + n) (by omega) (by omega)]
    refine hK _ ?_
    clear hK K
    (repeat with_reducible first | refine Walk.seq ?_ | refine Walk.block ?_ | refine Walk.skip ?_ | refine Walk.inBlock ?_ | refine Walk.label ?_ | refine Walk.scope ?_ | refine Walk.inScope ?_ | refine Walk.exit rfl ?_)
    refine Walk.region' rfl fun K hK => ?_
    simp only [go_sem, rows_len, Nat.reduceAdd, Nat.reduceMul, Nat.reduceSub, Nat.reduceLT, Nat.reduceLeDiff, Nat.reduceEqDiff, Nat.reduceBEq, Int.reduceToNat, Int.reduceLT, Int.reduceLE, Int.reduceEq, Int.reduceNeg, reduceIte, reduceCtorEq]
    refine hK _ ?_
    clear hK K
    (repeat with_reducible first | refine Walk.seq ?_ | refine Walk.block ?_ | refine Walk.skip ?_ | refine Walk.inBlock ?_ | refine Walk.label ?_ | refine Walk.scope ?_ | refine Walk.inScope ?_ | refine Walk.exit rfl ?_)
    refine Walk.ret ⟨?_, by simp [subH, hget]⟩
    simp only [retAV, eget, List.map_cons, List.map_nil, reduceIte, Nat.reduceEqDiff, if_true, if_false]
    simp [cutS, h2]
    omega
  · simp at h2
    (repeat with_reducible first | refine Walk.seq ?_ | refine Walk.block ?_ | refine Walk.skip ?_ | refine Walk.inBlock ?_ | refine Walk.label ?_ | refine Walk.scope ?_ | refine Walk.inScope ?_ | refine Walk.exit rfl ?_)
    refine Walk.region' rfl fun K hK => ?_
    simp only [go_sem, rows_len, Nat.reduceAdd, Nat.reduceMul, Nat.reduceSub, Nat.reduceLT, Nat.reduceLeDiff, Nat.reduceEqDiff, Nat.reduceBEq, Int.reduceToNat, Int.reduceLT, Int.reduceLE, Int.reduceEq, Int.reduceNeg, reduceIte, reduceCtorEq]
    refine hK _ ?_
    clear hK K
    (repeat with_reducible first | refine Walk.seq ?_ | refine Walk.block ?_ | refine Walk.skip ?_ | refine Walk.inBlock ?_ | refine Walk.label ?_ | refine Walk.scope ?_ | refine Walk.inScope ?_ | refine Walk.exit rfl ?_)
    refine Walk.ret ⟨?_, by simp [subH, hget]⟩
    simp only [retAV, eget, List.map_cons, List.map_nil, reduceIte, Nat.reduceEqDiff, if_true, if_false]
    simp [cutS]
    rw [if_neg (by omega), if_neg (by omega)]


theorem c52a (l : List Int) (a : Nat) (hl : l.length ≤ 600) (ha : a ≤ l.length) : ∃ r h', (∃ x a', a' ≤ l.length ∧ r = .d (.int .i64 x) ∧ h' = [(0, some (tape l a'))]) ∧ ACalls Try.prog 52 [.box 0 0] [(0, some (tape l a))] r h' := by
  unfold tape
  refine ACalls.of_rel (n := 31) _ 1 [2] (fn := Try.f52) Try.func52 rfl rfl (.one rfl) rfl (by simp) (by intro i; simp only [hget]; split <;> simp; omega) ?_
  (repeat with_reducible first | refine Walk.seq ?_ | refine Walk.block ?_ | refine Walk.skip ?_ | refine Walk.inBlock ?_ | refine Walk.label ?_ | refine Walk.scope ?_ | refine Walk.inScope ?_ | refine Walk.exit rfl ?_)
  refine Walk.region' rfl fun K hK => ?_
  simp only [go_sem, rows_len, tape_ids, Nat.reduceAdd, Nat.reduceMul, Nat.reduceSub, Nat.reduceLT, Nat.reduceLeDiff, Nat.reduceEqDiff, Nat.reduceBEq, Int.reduceToNat, Int.reduceLT, Int.reduceLE, Int.reduceEq, Int.reduceNeg, reduceIte, reduceCtorEq]
  refine hK _ ?_
  clear hK K
  (repeat with_reducible first | refine Walk.seq ?_ | refine Walk.block ?_ | refine Walk.skip ?_ | refine Walk.inBlock ?_ | refine Walk.label ?_ | refine Walk.scope ?_ | refine Walk.inScope ?_ | refine Walk.exit rfl ?_)
  refine Walk.drawn' rfl mixed fun K hK => ?_
  simp only [go_sem, rows_len, tape_ids, Nat.reduceAdd, Nat.reduceMul, Nat.reduceSub, Nat.reduceLT, Nat.reduceLeDiff, Nat.reduceEqDiff, Nat.reduceBEq, Int.reduceToNat, Int.reduceLT, Int.reduceLE, Int.reduceEq, Int.reduceNeg, reduceIte, reduceCtorEq]
  refine hK _ _ (by kernel_rfl) (by simp [newOk, freshE, freshH, freshO, AV.ids, AV.idsL, ids_box, ids_arr, tape_ids, hget]) ?_
  clear hK K
  (repeat with_reducible first | refine Walk.seq ?_ | refine Walk.block ?_ | refine Walk.skip ?_ | refine Walk.inBlock ?_ | refine Walk.label ?_ | refine Walk.scope ?_ | refine Walk.inScope ?_ | refine Walk.exit rfl ?_)
  refine Walk.cond rfl (fun h1 => ?_) (fun h1 => ?_)
  · (repeat with_reducible first | refine Walk.seq ?_ | refine Walk.block ?_ | refine Walk.skip ?_ | refine Walk.inBlock ?_ | refine Walk.label ?_ | refine Walk.scope ?_ | refine Walk.inScope ?_ | refine Walk.exit rfl ?_)
    refine Walk.region' rfl fun K hK => ?_
    simp only [go_sem, rows_len, tape_ids, Nat.reduceAdd, Nat.reduceMul, Nat.reduceSub, Nat.reduceLT, Nat.reduceLeDiff, Nat.reduceEqDiff, Nat.reduceBEq, Int.reduceToNat, Int.reduceLT, Int.reduceLE, Int.reduceEq, Int.reduceNeg, reduceIte, reduceCtorEq]
    refine hK _ ?_
    clear hK K
    (repeat with_reducible first | refine Walk.seq ?_ | refine Walk.block ?_ | refine Walk.skip ?_ | refine Walk.inBlock ?_ | refine Walk.label ?_ | refine Walk.scope ?_ | refine Walk.inScope ?_ | refine Walk.exit rfl ?_)
    exact Walk.ret ⟨[(0, some (tape l a))], by simp [subH, hget, tape], 0, a, ha, by simp [retAV, eget], rfl⟩
  simp at h1
  (repeat with_reducible first | refine Walk.seq ?_ | refine Walk.block ?_ | refine Walk.skip ?_ | refine Walk.inBlock ?_ | refine Walk.label ?_ | refine Walk.scope ?_ | refine Walk.inScope ?_ | refine Walk.exit rfl ?_)
  refine Walk.region' rfl fun K hK => ?_
  simp only [go_sem, rows_len, tape_ids, Nat.reduceAdd, Nat.reduceMul, Nat.reduceSub, Nat.reduceLT, Nat.reduceLeDiff, Nat.reduceEqDiff, Nat.reduceBEq, Int.reduceToNat, Int.reduceLT, Int.reduceLE, Int.reduceEq, Int.reduceNeg, reduceIte, reduceCtorEq, wrap64 (x := (a : Int) + 1) (by omega) (by omega)]
  refine hK _ ?_
  clear hK K
  have hx : IntKind.i64.wrap ((a : Int) + 1 - 1) = (a : Int) := by rw [wrap64 (by omega) (by omega)]; omega
  (repeat with_reducible first | refine Walk.seq ?_ | refine Walk.block ?_ | refine Walk.skip ?_ | refine Walk.inBlock ?_ | refine Walk.label ?_ | refine Walk.scope ?_ | refine Walk.inScope ?_ | refine Walk.exit rfl ?_)
  refine Walk.drawn' rfl mixed fun K hK => ?_
  simp only [go_sem, rows_len, tape_ids, Nat.reduceAdd, Nat.reduceMul, Nat.reduceSub, Nat.reduceLT, Nat.reduceLeDiff, Nat.reduceEqDiff, Nat.reduceBEq, Int.reduceToNat, Int.reduceLT, Int.reduceLE, Int.reduceEq, Int.reduceNeg, reduceIte, reduceCtorEq, hx, ints_getD h1, h1]
  refine hK _ _ (by kernel_rfl) (by simp [newOk, freshE, freshH, freshO, AV.ids, AV.idsL, ids_box, ids_arr, tape_ids, hget]) ?_
  clear hK K
  (repeat with_reducible first | refine Walk.seq ?_ | refine Walk.block ?_ | refine Walk.skip ?_ | refine Walk.inBlock ?_ | refine Walk.label ?_ | refine Walk.scope ?_ | refine Walk.inScope ?_ | refine Walk.exit rfl ?_)
  exact Walk.ret ⟨[(0, some (tape l (a + 1)))], by simp [subH, hget, tape], l[a], a + 1, by omega, by simp [retAV, eget], rfl⟩
theorem c52 (id : Nat) (l : List Int) (a : Nat) (hl : l.length ≤ 600) (ha : a ≤ l.length) : ∃ x a', a' ≤ l.length ∧ ACalls Try.prog 52 [.box id 0] [(id, some (tape l a))] (.d (.int .i64 x)) [(id, some (tape l a'))] := by
  obtain ⟨r, h', ⟨x, a', h1, rfl, rfl⟩, h2⟩ := c52a l a hl ha
  refine ⟨x, a', h1, ?_⟩
  have := h2.swap 0 id
  simpa [AV.rens, AV.ren, renL, AObj.ren, tape, swp] using this
end Go.AX
