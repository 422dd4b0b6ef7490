import Derived.Test.YtmggphnhfegffaaF5
set_option linter.unusedVariables false
set_option linter.unusedSimpArgs false
set_option maxRecDepth 4000
namespace Go.AX
open Go.Proofs
attribute [local go_sem] V1_none V1_some V_nil V_move V_assign V_pick V_bin V_un V_extract V_makeFunc V_convert V_nilCheck V_fieldAddr V_field V_load V_store V_indexAddr V_index V_slice V_slice0 V_alloc V_box V_build V_buildSlice V_makeSlice V_len V_min V_max V_append V_call V_guard VGs_some VG_tt VG_ff VG_tf VG_ft VG_u gslot ok fail po so aNew dstOk freshU addLog_none' addLog_some' St.step putL evalA eget hget argE freshE freshO freshH AV.ids AV.idsL AV.ok1 AV.cells ids_box ids_arr liveBox liveArr isArr aPick aBin aUn aExtract aMakeFunc aConvert aNilCheck aFieldAddr aField cut aLen aIndexAddr aMin aMax aIndex bnd isInt aSlice aSlice0 aLoad aAlloc aBox aStore splice aMake updIds newIds zv_i64 zv_u8 zv_bool zv_nils zv_nilp cond_bool cond_int TI.isAgg TK.isSl TK.el okL avDps avDp avD List.map_cons List.map_nil List.append_nil List.nil_append List.cons_append List.length_cons List.length_nil List.take_succ_cons List.take_zero List.drop_succ_cons List.drop_zero List.take_nil List.drop_nil List.headD_cons List.getD_cons_zero List.getD_cons_succ List.mem_cons List.not_mem_nil List.getElem?_cons_zero List.getElem?_cons_succ List.toList_toArray Option.getD_some Option.getD_none Option.bind_some Option.bind_none Option.map_some Option.map_none Option.getD Option.toList Nat.zero_add Nat.add_zero Nat.zero_le Nat.le_refl if_true if_false ite_self true_and and_true false_and and_false true_or or_true false_or or_false not_true_eq_false not_false_eq_true ne_eq cond_true cond_false Bool.true_eq_false Bool.false_eq_true forall_const decide_true decide_false implies_true true_implies and_self or_self Nat.succ_ne_zero ints_len Int.toNat_natCast Int.ofNat_lt Int.ofNat_le Int.natCast_nonneg List.length_map decide_eq_true_eq AV.views AV.view AV.viewPs AV.viewP arrsOnly newNames List.length_append List.append_assoc Bool.not_true Bool.not_false AV.ok2 Int.ofNat_inj aBuild fillR fillP aBuildSlice dense elP aAppend esOf esOfP List.forall_mem_cons forall_eq_or_imp forall_eq zD zDp ti2 ti3 ti4 ti5 ti6 ti7 ti8 ti9 ti10 ti11 ti12 ti13 ti14 ti15 ti16 ti17 ti18 ti19 ti21 ti22 ti23 ti25 ti26 ti27 ti31 ti32 ti41 ti51 ti52 ti53 ti54 ti56 ti58 ti60 ti61 ti62 ti67 ti68 ti71 ti72 ti79 ti80 ti81 ti82 ti83 ti84 ti85 ti89 ti93 ti94 ti95 ti110 ti124 ti125 ti126 ti127 ti128 ti129 ti130 ti131 ti133 ti134 ti135 ti136 ti137

def lowF (n c x : Int) : Int := if x = 1 then IntKind.i64.wrap (n + c) else if x = -1 then IntKind.i64.wrap (n + min c 0) else n
def highF (n c x : Int) : Int := if x = 1 then IntKind.i64.wrap (n + c) else if x = -1 then IntKind.i64.wrap (n + max c 0) else n
def lowT (cs st : List Int) : Nat → Int
  | 0 => 0
  | k + 1 => lowF (lowT cs st k) (cs.getD k 0) (st.getD k 0)
def highT (cs st : List Int) : Nat → Int
  | 0 => 0
  | k + 1 => highF (highT cs st k) (cs.getD k 0) (st.getD k 0)
def stOk (x : Int) : Bool := decide (x = 1) || (decide (x = -1) || decide (x = 0))
def spanB (cs st : List Int) : Bool := decide (st.length = cs.length) && (!decide ((st.length : Int) > 12) && (smallS cs && st.all stOk))
def spanL (cs st : List Int) : Int := if spanB cs st then lowT cs st cs.length else 0
def spanM (cs st : List Int) : Int := if spanB cs st then highT cs st cs.length else 0

theorem c16 (cs st : List Int) (lo hi : Int) :
    ACalls Try.prog 16 [.agg [.d (.sl (ints cs)), .d (.int .i64 lo), .d (.int .i64 hi)], .d (.sl (ints st))] [] (.tup [.d (.int .i64 (spanL cs st)), .d (.int .i64 (spanM cs st)), .d (.bool (spanB cs st))]) [] := by
  refine ACalls.of_sem (n := 61) 0 [4, 5, 6] (fn := Try.f16) Try.func16 rfl rfl (.three rfl) rfl (by simp) (by simp [hget]) ?_
  (repeat with_reducible first | refine Walk.seq ?_ | refine Walk.block ?_ | refine Walk.skip ?_ | refine Walk.inBlock ?_ | refine Walk.label ?_ | refine Walk.scope ?_ | refine Walk.inScope ?_ | refine Walk.exit rfl ?_)
  refine Walk.region' rfl fun K hK => ?_
  simp only [go_sem, rows_len, Nat.reduceAdd, Nat.reduceMul, Nat.reduceSub, Nat.reduceLT, Nat.reduceLeDiff, Nat.reduceEqDiff, Nat.reduceBEq, Int.reduceToNat, Int.reduceLT, Int.reduceLE, Int.reduceEq, Int.reduceNeg, reduceIte, reduceCtorEq]
  refine hK _ ?_
  clear hK K
  (repeat with_reducible first | refine Walk.seq ?_ | refine Walk.block ?_ | refine Walk.skip ?_ | refine Walk.inBlock ?_ | refine Walk.label ?_ | refine Walk.scope ?_ | refine Walk.inScope ?_ | refine Walk.exit rfl ?_)
  refine Walk.region' rfl fun K hK => ?_
  simp only [go_sem, rows_len, Nat.reduceAdd, Nat.reduceMul, Nat.reduceSub, Nat.reduceLT, Nat.reduceLeDiff, Nat.reduceEqDiff, Nat.reduceBEq, Int.reduceToNat, Int.reduceLT, Int.reduceLE, Int.reduceEq, Int.reduceNeg, reduceIte, reduceCtorEq]
  refine VGd_cases (fun h1 => ?_) (fun h1 => ?_)
  · simp only [go_sem, rows_len, Nat.reduceAdd, Nat.reduceMul, Nat.reduceSub, Nat.reduceLT, Nat.reduceLeDiff, Nat.reduceEqDiff, Nat.reduceBEq, Int.reduceToNat, Int.reduceLT, Int.reduceLE, Int.reduceEq, Int.reduceNeg, reduceIte, reduceCtorEq, h1]
    refine hK _ ?_
    clear hK K
    (repeat with_reducible first | refine Walk.seq ?_ | refine Walk.block ?_ | refine Walk.skip ?_ | refine Walk.inBlock ?_ | refine Walk.label ?_ | refine Walk.scope ?_ | refine Walk.inScope ?_ | refine Walk.exit rfl ?_)
    refine Walk.cond rfl (fun h2 => ?_) (fun h2 => ?_)
    · (repeat with_reducible first | refine Walk.seq ?_ | refine Walk.block ?_ | refine Walk.skip ?_ | refine Walk.inBlock ?_ | refine Walk.label ?_ | refine Walk.scope ?_ | refine Walk.inScope ?_ | refine Walk.exit rfl ?_)
      refine Walk.region' rfl fun K hK => ?_
      simp only [go_sem, rows_len, Nat.reduceAdd, Nat.reduceMul, Nat.reduceSub, Nat.reduceLT, Nat.reduceLeDiff, Nat.reduceEqDiff, Nat.reduceBEq, Int.reduceToNat, Int.reduceLT, Int.reduceLE, Int.reduceEq, Int.reduceNeg, reduceIte, reduceCtorEq]
      refine hK _ ?_
      clear hK K
      have h1' : ¬ st.length = cs.length := by simpa using h1
      (repeat with_reducible first | refine Walk.seq ?_ | refine Walk.block ?_ | refine Walk.skip ?_ | refine Walk.inBlock ?_ | refine Walk.label ?_ | refine Walk.scope ?_ | refine Walk.inScope ?_ | refine Walk.exit rfl ?_)
      refine Walk.ret ⟨?_, by simp [subH, hget]⟩
      simp only [retAV, eget, List.map_cons, List.map_nil, reduceIte, Nat.reduceEqDiff, if_true, if_false]
      simp [spanL, spanM, spanB, h1']
    · simp at h2
  simp only [go_sem, rows_len, Nat.reduceAdd, Nat.reduceMul, Nat.reduceSub, Nat.reduceLT, Nat.reduceLeDiff, Nat.reduceEqDiff, Nat.reduceBEq, Int.reduceToNat, Int.reduceLT, Int.reduceLE, Int.reduceEq, Int.reduceNeg, reduceIte, reduceCtorEq, h1]
  refine VGd_cases (fun h2 => ?_) (fun h2 => ?_)
  · simp only [go_sem, rows_len, Nat.reduceAdd, Nat.reduceMul, Nat.reduceSub, Nat.reduceLT, Nat.reduceLeDiff, Nat.reduceEqDiff, Nat.reduceBEq, Int.reduceToNat, Int.reduceLT, Int.reduceLE, Int.reduceEq, Int.reduceNeg, reduceIte, reduceCtorEq, h2]
    refine hK _ ?_
    clear hK K
    (repeat with_reducible first | refine Walk.seq ?_ | refine Walk.block ?_ | refine Walk.skip ?_ | refine Walk.inBlock ?_ | refine Walk.label ?_ | refine Walk.scope ?_ | refine Walk.inScope ?_ | refine Walk.exit rfl ?_)
    refine Walk.cond rfl (fun h3 => ?_) (fun h3 => ?_)
    · (repeat with_reducible first | refine Walk.seq ?_ | refine Walk.block ?_ | refine Walk.skip ?_ | refine Walk.inBlock ?_ | refine Walk.label ?_ | refine Walk.scope ?_ | refine Walk.inScope ?_ | refine Walk.exit rfl ?_)
      refine Walk.region' rfl fun K hK => ?_
      simp only [go_sem, rows_len, Nat.reduceAdd, Nat.reduceMul, Nat.reduceSub, Nat.reduceLT, Nat.reduceLeDiff, Nat.reduceEqDiff, Nat.reduceBEq, Int.reduceToNat, Int.reduceLT, Int.reduceLE, Int.reduceEq, Int.reduceNeg, reduceIte, reduceCtorEq]
      refine hK _ ?_
      clear hK K
      have h2' : ¬ (st.length : Int) ≤ 12 := by simp at h2; omega
      (repeat with_reducible first | refine Walk.seq ?_ | refine Walk.block ?_ | refine Walk.skip ?_ | refine Walk.inBlock ?_ | refine Walk.label ?_ | refine Walk.scope ?_ | refine Walk.inScope ?_ | refine Walk.exit rfl ?_)
      refine Walk.ret ⟨?_, by simp [subH, hget]⟩
      simp only [retAV, eget, List.map_cons, List.map_nil, reduceIte, Nat.reduceEqDiff, if_true, if_false]
      simp [spanL, spanM, spanB, h2']
    · simp at h3
  have hcs' : cs.length ≤ 12 := by simp at h1 h2; omega
  have hcs : cs.length ≤ LB := by unfold LB; omega
  simp only [go_sem, rows_len, Nat.reduceAdd, Nat.reduceMul, Nat.reduceSub, Nat.reduceLT, Nat.reduceLeDiff, Nat.reduceEqDiff, Nat.reduceBEq, Int.reduceToNat, Int.reduceLT, Int.reduceLE, Int.reduceEq, Int.reduceNeg, reduceIte, reduceCtorEq, h2]
  refine VCl.pure rfl rfl (c46 cs hcs) (by simp only [go_sem, rows_len, Nat.reduceAdd, Nat.reduceMul, Nat.reduceSub, Nat.reduceLT, Nat.reduceLeDiff, Nat.reduceEqDiff, Nat.reduceBEq, Int.reduceToNat, Int.reduceLT, Int.reduceLE, Int.reduceEq, Int.reduceNeg, reduceIte, reduceCtorEq, h2]; try simp) (by simp only [go_sem, rows_len, Nat.reduceAdd, Nat.reduceMul, Nat.reduceSub, Nat.reduceLT, Nat.reduceLeDiff, Nat.reduceEqDiff, Nat.reduceBEq, Int.reduceToNat, Int.reduceLT, Int.reduceLE, Int.reduceEq, Int.reduceNeg, reduceIte, reduceCtorEq, h2]; try simp) (by simp only [go_sem, rows_len, Nat.reduceAdd, Nat.reduceMul, Nat.reduceSub, Nat.reduceLT, Nat.reduceLeDiff, Nat.reduceEqDiff, Nat.reduceBEq, Int.reduceToNat, Int.reduceLT, Int.reduceLE, Int.reduceEq, Int.reduceNeg, reduceIte, reduceCtorEq, h2]; try simp) (by simp only [go_sem, rows_len, Nat.reduceAdd, Nat.reduceMul, Nat.reduceSub, Nat.reduceLT, Nat.reduceLeDiff, Nat.reduceEqDiff, Nat.reduceBEq, Int.reduceToNat, Int.reduceLT, Int.reduceLE, Int.reduceEq, Int.reduceNeg, reduceIte, reduceCtorEq, h2]; try simp) (by simp only [go_sem, rows_len, Nat.reduceAdd, Nat.reduceMul, Nat.reduceSub, Nat.reduceLT, Nat.reduceLeDiff, Nat.reduceEqDiff, Nat.reduceBEq, Int.reduceToNat, Int.reduceLT, Int.reduceLE, Int.reduceEq, Int.reduceNeg, reduceIte, reduceCtorEq, h2]; try simp) (by simp only [go_sem, rows_len, Nat.reduceAdd, Nat.reduceMul, Nat.reduceSub, Nat.reduceLT, Nat.reduceLeDiff, Nat.reduceEqDiff, Nat.reduceBEq, Int.reduceToNat, Int.reduceLT, Int.reduceLE, Int.reduceEq, Int.reduceNeg, reduceIte, reduceCtorEq, h2]; try simp) ?_
  simp only [go_sem, rows_len, Nat.reduceAdd, Nat.reduceMul, Nat.reduceSub, Nat.reduceLT, Nat.reduceLeDiff, Nat.reduceEqDiff, Nat.reduceBEq, Int.reduceToNat, Int.reduceLT, Int.reduceLE, Int.reduceEq, Int.reduceNeg, reduceIte, reduceCtorEq, h2]
  refine hK _ ?_
  clear hK K
  (repeat with_reducible first | refine Walk.seq ?_ | refine Walk.block ?_ | refine Walk.skip ?_ | refine Walk.inBlock ?_ | refine Walk.label ?_ | refine Walk.scope ?_ | refine Walk.inScope ?_ | refine Walk.exit rfl ?_)
  refine Walk.cond rfl (fun h3 => ?_) (fun h3 => ?_)
  · (repeat with_reducible first | refine Walk.seq ?_ | refine Walk.block ?_ | refine Walk.skip ?_ | refine Walk.inBlock ?_ | refine Walk.label ?_ | refine Walk.scope ?_ | refine Walk.inScope ?_ | refine Walk.exit rfl ?_)
    refine Walk.region' rfl fun K hK => ?_
    simp only [go_sem, rows_len, Nat.reduceAdd, Nat.reduceMul, Nat.reduceSub, Nat.reduceLT, Nat.reduceLeDiff, Nat.reduceEqDiff, Nat.reduceBEq, Int.reduceToNat, Int.reduceLT, Int.reduceLE, Int.reduceEq, Int.reduceNeg, reduceIte, reduceCtorEq]
    refine hK _ ?_
    clear hK K
    (repeat with_reducible first | refine Walk.seq ?_ | refine Walk.block ?_ | refine Walk.skip ?_ | refine Walk.inBlock ?_ | refine Walk.label ?_ | refine Walk.scope ?_ | refine Walk.inScope ?_ | refine Walk.exit rfl ?_)
    refine Walk.ret ⟨?_, by simp [subH, hget]⟩
    simp only [retAV, eget, List.map_cons, List.map_nil, reduceIte, Nat.reduceEqDiff, if_true, if_false]
    simp [spanL, spanM, spanB]
    simp at h3; simp [h3]
  simp only [decide_eq_false_iff_not, Classical.not_not, Bool.not_eq_false'] at h1 h2 h3
  (repeat with_reducible first | refine Walk.seq ?_ | refine Walk.block ?_ | refine Walk.skip ?_ | refine Walk.inBlock ?_ | refine Walk.label ?_ | refine Walk.scope ?_ | refine Walk.inScope ?_ | refine Walk.exit rfl ?_)
  refine Walk.region' rfl fun K hK => ?_
  simp only [go_sem, rows_len, Nat.reduceAdd, Nat.reduceMul, Nat.reduceSub, Nat.reduceLT, Nat.reduceLeDiff, Nat.reduceEqDiff, Nat.reduceBEq, Int.reduceToNat, Int.reduceLT, Int.reduceLE, Int.reduceEq, Int.reduceNeg, reduceIte, reduceCtorEq]
  refine hK _ ?_
  clear hK K
  (repeat with_reducible first | refine Walk.seq ?_ | refine Walk.block ?_ | refine Walk.skip ?_ | refine Walk.inBlock ?_ | refine Walk.label ?_ | refine Walk.scope ?_ | refine Walk.inScope ?_ | refine Walk.exit rfl ?_)
  refine Walk.loop ?_
  refine Walk.weaken ⟨[(29, .d (.int .i64 (0 : Nat))), (28, .d (.int .i64 cs.length)), (27, .d (.sl (ints cs))), (1, .d (.sl (ints st))), (4, .d (.int .i64 (lowT cs st 0))), (5, .d (.int .i64 (highT cs st 0)))], []⟩ (by simp [subE, eget, lowT, highT]) (by simp [subH, hget, lowT, highT]) ?_
  refine Walk.loopI (fun i : Nat => ⟨[(29, .d (.int .i64 i)), (28, .d (.int .i64 cs.length)), (27, .d (.sl (ints cs))), (1, .d (.sl (ints st))), (4, .d (.int .i64 (lowT cs st i))), (5, .d (.int .i64 (highT cs st i)))], []⟩)
    (fun i => i ≤ cs.length ∧ ∀ j (h : j < st.length), j < i → stOk st[j] = true) (fun i => cs.length - i) (fun i ⟨hi, hall⟩ ih => ?_) 0 ⟨by omega, fun j _ h => by omega⟩
  (repeat with_reducible first | refine Walk.seq ?_ | refine Walk.block ?_ | refine Walk.skip ?_ | refine Walk.inBlock ?_ | refine Walk.label ?_ | refine Walk.scope ?_ | refine Walk.inScope ?_ | refine Walk.exit rfl ?_)
  refine Walk.region' rfl fun K hK => ?_
  simp only [go_sem, rows_len, Nat.reduceAdd, Nat.reduceMul, Nat.reduceSub, Nat.reduceLT, Nat.reduceLeDiff, Nat.reduceEqDiff, Nat.reduceBEq, Int.reduceToNat, Int.reduceLT, Int.reduceLE, Int.reduceEq, Int.reduceNeg, reduceIte, reduceCtorEq]
  refine hK _ ?_
  clear hK K
  (repeat with_reducible first | refine Walk.seq ?_ | refine Walk.block ?_ | refine Walk.skip ?_ | refine Walk.inBlock ?_ | refine Walk.label ?_ | refine Walk.scope ?_ | refine Walk.inScope ?_ | refine Walk.exit rfl ?_)
  refine Walk.cond rfl (fun hc => ?_) (fun hc => ?_)
  · simp only [decide_eq_true_eq] at hc
    have hc' := hc
    have hs : i < st.length := by omega
    have eL : lowT cs st (i + 1) = lowF (lowT cs st i) cs[i] st[i] := by simp only [lowT, getD_of hc', getD_of hs]
    have eM : highT cs st (i + 1) = highF (highT cs st i) cs[i] st[i] := by simp only [highT, getD_of hc', getD_of hs]
    (repeat with_reducible first | refine Walk.seq ?_ | refine Walk.block ?_ | refine Walk.skip ?_ | refine Walk.inBlock ?_ | refine Walk.label ?_ | refine Walk.scope ?_ | refine Walk.inScope ?_ | refine Walk.exit rfl ?_)
    refine Walk.region' rfl fun K hK => ?_
    simp only [go_sem, rows_len, Nat.reduceAdd, Nat.reduceMul, Nat.reduceSub, Nat.reduceLT, Nat.reduceLeDiff, Nat.reduceEqDiff, Nat.reduceBEq, Int.reduceToNat, Int.reduceLT, Int.reduceLE, Int.reduceEq, Int.reduceNeg, reduceIte, reduceCtorEq, ints_getD hc, hc]
    refine hK _ ?_
    clear hK K
    (repeat with_reducible first | refine Walk.seq ?_ | refine Walk.block ?_ | refine Walk.skip ?_ | refine Walk.inBlock ?_ | refine Walk.label ?_ | refine Walk.scope ?_ | refine Walk.inScope ?_ | refine Walk.exit rfl ?_)
    refine Walk.region' rfl fun K hK => ?_
    simp only [go_sem, rows_len, Nat.reduceAdd, Nat.reduceMul, Nat.reduceSub, Nat.reduceLT, Nat.reduceLeDiff, Nat.reduceEqDiff, Nat.reduceBEq, Int.reduceToNat, Int.reduceLT, Int.reduceLE, Int.reduceEq, Int.reduceNeg, reduceIte, reduceCtorEq, ints_getD hs, hs]
    refine hK _ ?_
    clear hK K
    (repeat with_reducible first | refine Walk.seq ?_ | refine Walk.block ?_ | refine Walk.skip ?_ | refine Walk.inBlock ?_ | refine Walk.label ?_ | refine Walk.scope ?_ | refine Walk.inScope ?_ | refine Walk.exit rfl ?_)
    refine Walk.region' rfl fun K hK => ?_
    simp only [go_sem, rows_len, Nat.reduceAdd, Nat.reduceMul, Nat.reduceSub, Nat.reduceLT, Nat.reduceLeDiff, Nat.reduceEqDiff, Nat.reduceBEq, Int.reduceToNat, Int.reduceLT, Int.reduceLE, Int.reduceEq, Int.reduceNeg, reduceIte, reduceCtorEq]
    refine hK _ ?_
    clear hK K
    (repeat with_reducible first | refine Walk.seq ?_ | refine Walk.block ?_ | refine Walk.skip ?_ | refine Walk.inBlock ?_ | refine Walk.label ?_ | refine Walk.scope ?_ | refine Walk.inScope ?_ | refine Walk.exit rfl ?_)
    refine Walk.cond rfl (fun h4 => ?_) (fun h4 => ?_)
    · simp only [decide_eq_true_eq] at h4
      (repeat with_reducible first | refine Walk.seq ?_ | refine Walk.block ?_ | refine Walk.skip ?_ | refine Walk.inBlock ?_ | refine Walk.label ?_ | refine Walk.scope ?_ | refine Walk.inScope ?_ | refine Walk.exit rfl ?_)
      refine Walk.region' rfl fun K hK => ?_
      simp only [go_sem, rows_len, Nat.reduceAdd, Nat.reduceMul, Nat.reduceSub, Nat.reduceLT, Nat.reduceLeDiff, Nat.reduceEqDiff, Nat.reduceBEq, Int.reduceToNat, Int.reduceLT, Int.reduceLE, Int.reduceEq, Int.reduceNeg, reduceIte, reduceCtorEq]
      refine hK _ ?_
      clear hK K
      have h5 : ∀ j (h : j < st.length), j < i + 1 → stOk st[j] = true := fun j h hj => by
        by_cases e : j = i
        · subst e; simp [stOk, h4]
        · exact hall j h (by omega)
      (repeat with_reducible first | refine Walk.seq ?_ | refine Walk.block ?_ | refine Walk.skip ?_ | refine Walk.inBlock ?_ | refine Walk.label ?_ | refine Walk.scope ?_ | refine Walk.inScope ?_ | refine Walk.exit rfl ?_)
      refine Walk.region' rfl fun K hK => ?_
      simp only [go_sem, rows_len, Nat.reduceAdd, Nat.reduceMul, Nat.reduceSub, Nat.reduceLT, Nat.reduceLeDiff, Nat.reduceEqDiff, Nat.reduceBEq, Int.reduceToNat, Int.reduceLT, Int.reduceLE, Int.reduceEq, Int.reduceNeg, reduceIte, reduceCtorEq, wrap64 (x := (i : Int) + 1) (by omega) (by omega)]
      refine hK _ ?_
      clear hK K
      refine Walk.weaken _ (by simp [subE, eget, eL, eM, lowF, highF, h4]) (by simp [subH, hget]) (ih (i + 1) ⟨by omega, h5⟩ (by omega))
    simp only [decide_eq_false_iff_not] at h4
    (repeat with_reducible first | refine Walk.seq ?_ | refine Walk.block ?_ | refine Walk.skip ?_ | refine Walk.inBlock ?_ | refine Walk.label ?_ | refine Walk.scope ?_ | refine Walk.inScope ?_ | refine Walk.exit rfl ?_)
    refine Walk.region' rfl fun K hK => ?_
    simp only [go_sem, rows_len, Nat.reduceAdd, Nat.reduceMul, Nat.reduceSub, Nat.reduceLT, Nat.reduceLeDiff, Nat.reduceEqDiff, Nat.reduceBEq, Int.reduceToNat, Int.reduceLT, Int.reduceLE, Int.reduceEq, Int.reduceNeg, reduceIte, reduceCtorEq]
    refine hK _ ?_
    clear hK K
    (repeat with_reducible first | refine Walk.seq ?_ | refine Walk.block ?_ | refine Walk.skip ?_ | refine Walk.inBlock ?_ | refine Walk.label ?_ | refine Walk.scope ?_ | refine Walk.inScope ?_ | refine Walk.exit rfl ?_)
    refine Walk.cond rfl (fun h5 => ?_) (fun h5 => ?_)
    · simp only [decide_eq_true_eq] at h5
      (repeat with_reducible first | refine Walk.seq ?_ | refine Walk.block ?_ | refine Walk.skip ?_ | refine Walk.inBlock ?_ | refine Walk.label ?_ | refine Walk.scope ?_ | refine Walk.inScope ?_ | refine Walk.exit rfl ?_)
      refine Walk.region' rfl fun K hK => ?_
      simp only [go_sem, rows_len, Nat.reduceAdd, Nat.reduceMul, Nat.reduceSub, Nat.reduceLT, Nat.reduceLeDiff, Nat.reduceEqDiff, Nat.reduceBEq, Int.reduceToNat, Int.reduceLT, Int.reduceLE, Int.reduceEq, Int.reduceNeg, reduceIte, reduceCtorEq]
      refine hK _ ?_
      clear hK K
      have h6 : ∀ j (h : j < st.length), j < i + 1 → stOk st[j] = true := fun j h hj => by
        by_cases e : j = i
        · subst e; simp [stOk, h5]
        · exact hall j h (by omega)
      (repeat with_reducible first | refine Walk.seq ?_ | refine Walk.block ?_ | refine Walk.skip ?_ | refine Walk.inBlock ?_ | refine Walk.label ?_ | refine Walk.scope ?_ | refine Walk.inScope ?_ | refine Walk.exit rfl ?_)
      refine Walk.region' rfl fun K hK => ?_
      simp only [go_sem, rows_len, Nat.reduceAdd, Nat.reduceMul, Nat.reduceSub, Nat.reduceLT, Nat.reduceLeDiff, Nat.reduceEqDiff, Nat.reduceBEq, Int.reduceToNat, Int.reduceLT, Int.reduceLE, Int.reduceEq, Int.reduceNeg, reduceIte, reduceCtorEq, wrap64 (x := (i : Int) + 1) (by omega) (by omega)]
      refine hK _ ?_
      clear hK K
      refine Walk.weaken _ (by simp [subE, eget, eL, eM, lowF, highF, h5]) (by simp [subH, hget]) (ih (i + 1) ⟨by omega, h6⟩ (by omega))
    simp only [decide_eq_false_iff_not] at h5
    (repeat with_reducible first | refine Walk.seq ?_ | refine Walk.block ?_ | refine Walk.skip ?_ | refine Walk.inBlock ?_ | refine Walk.label ?_ | refine Walk.scope ?_ | refine Walk.inScope ?_ | refine Walk.exit rfl ?_)
    refine Walk.region' rfl fun K hK => ?_
    simp only [go_sem, rows_len, Nat.reduceAdd, Nat.reduceMul, Nat.reduceSub, Nat.reduceLT, Nat.reduceLeDiff, Nat.reduceEqDiff, Nat.reduceBEq, Int.reduceToNat, Int.reduceLT, Int.reduceLE, Int.reduceEq, Int.reduceNeg, reduceIte, reduceCtorEq]
    refine hK _ ?_
    clear hK K
    (repeat with_reducible first | refine Walk.seq ?_ | refine Walk.block ?_ | refine Walk.skip ?_ | refine Walk.inBlock ?_ | refine Walk.label ?_ | refine Walk.scope ?_ | refine Walk.inScope ?_ | refine Walk.exit rfl ?_)
    refine Walk.cond rfl (fun h6 => ?_) (fun h6 => ?_)
    · simp only [decide_eq_true_eq] at h6
      have h7 : ∀ j (h : j < st.length), j < i + 1 → stOk st[j] = true := fun j h hj => by
        by_cases e : j = i
        · subst e; simp [stOk, h6]
        · exact hall j h (by omega)
      (repeat with_reducible first | refine Walk.seq ?_ | refine Walk.block ?_ | refine Walk.skip ?_ | refine Walk.inBlock ?_ | refine Walk.label ?_ | refine Walk.scope ?_ | refine Walk.inScope ?_ | refine Walk.exit rfl ?_)
      refine Walk.region' rfl fun K hK => ?_
      simp only [go_sem, rows_len, Nat.reduceAdd, Nat.reduceMul, Nat.reduceSub, Nat.reduceLT, Nat.reduceLeDiff, Nat.reduceEqDiff, Nat.reduceBEq, Int.reduceToNat, Int.reduceLT, Int.reduceLE, Int.reduceEq, Int.reduceNeg, reduceIte, reduceCtorEq, wrap64 (x := (i : Int) + 1) (by omega) (by omega)]
      refine hK _ ?_
      clear hK K
      refine Walk.weaken _ (by simp [subE, eget, eL, eM, lowF, highF, h6]) (by simp [subH, hget]) (ih (i + 1) ⟨by omega, h7⟩ (by omega))
    simp only [decide_eq_false_iff_not] at h6
    (repeat with_reducible first | refine Walk.seq ?_ | refine Walk.block ?_ | refine Walk.skip ?_ | refine Walk.inBlock ?_ | refine Walk.label ?_ | refine Walk.scope ?_ | refine Walk.inScope ?_ | refine Walk.exit rfl ?_)
    refine Walk.region' rfl fun K hK => ?_
    simp only [go_sem, rows_len, Nat.reduceAdd, Nat.reduceMul, Nat.reduceSub, Nat.reduceLT, Nat.reduceLeDiff, Nat.reduceEqDiff, Nat.reduceBEq, Int.reduceToNat, Int.reduceLT, Int.reduceLE, Int.reduceEq, Int.reduceNeg, reduceIte, reduceCtorEq]
    refine hK _ ?_
    clear hK K
    (repeat with_reducible first | refine Walk.seq ?_ | refine Walk.block ?_ | refine Walk.skip ?_ | refine Walk.inBlock ?_ | refine Walk.label ?_ | refine Walk.scope ?_ | refine Walk.inScope ?_ | refine Walk.exit rfl ?_)
    refine Walk.ret ⟨?_, by simp [subH, hget]⟩
    simp only [retAV, eget, List.map_cons, List.map_nil, reduceIte, Nat.reduceEqDiff, if_true, if_false]
    have : st.all stOk = false := by
      rw [List.all_eq_false]
      exact ⟨st[i], by simp, by simp [stOk, h4, h5, h6]⟩
    simp [spanL, spanM, spanB, this]
  · simp only [decide_eq_false_iff_not] at hc
    (repeat with_reducible first | refine Walk.seq ?_ | refine Walk.block ?_ | refine Walk.skip ?_ | refine Walk.inBlock ?_ | refine Walk.label ?_ | refine Walk.scope ?_ | refine Walk.inScope ?_ | refine Walk.exit rfl ?_)
    refine Walk.region' rfl fun K hK => ?_
    simp only [go_sem, rows_len, Nat.reduceAdd, Nat.reduceMul, Nat.reduceSub, Nat.reduceLT, Nat.reduceLeDiff, Nat.reduceEqDiff, Nat.reduceBEq, Int.reduceToNat, Int.reduceLT, Int.reduceLE, Int.reduceEq, Int.reduceNeg, reduceIte, reduceCtorEq]
    refine hK _ ?_
    clear hK K
    (repeat with_reducible first | refine Walk.seq ?_ | refine Walk.block ?_ | refine Walk.skip ?_ | refine Walk.inBlock ?_ | refine Walk.label ?_ | refine Walk.scope ?_ | refine Walk.inScope ?_ | refine Walk.exit rfl ?_)
    refine Walk.ret ⟨?_, by simp [subH, hget]⟩
    simp only [retAV, eget, List.map_cons, List.map_nil, reduceIte, Nat.reduceEqDiff, if_true, if_false]
    have : st.all stOk = true := by
      rw [List.all_eq_true]
      intro r hr
      obtain ⟨j, hj, rfl⟩ := List.getElem_of_mem hr
      exact hall j hj (by omega)
    have e : i = cs.length := by omega
    have h2' : (st.length : Int) ≤ 12 := by omega
    have hb : spanB cs st = true := by simp [spanB, this, h1, h3]; omega
    simp [spanL, spanM, hb, e]
end Go.AX
