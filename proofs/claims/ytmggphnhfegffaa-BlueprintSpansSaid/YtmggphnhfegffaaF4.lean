import Derived.Test.YtmggphnhfegffaaF3
set_option linter.unusedVariables false
set_option linter.unusedSimpArgs false
set_option maxRecDepth 4000
namespace Go.AX
open Go.Proofs
attribute [local go_sem] V1_none V1_some V_nil V_move V_assign V_pick V_bin V_un V_extract V_makeFunc V_convert V_nilCheck V_fieldAddr V_field V_load V_store V_indexAddr V_index V_slice V_slice0 V_alloc V_box V_build V_buildSlice V_makeSlice V_len V_min V_max V_append V_call V_guard VGs_some VG_tt VG_ff VG_tf VG_ft VG_u gslot ok fail po so aNew dstOk freshU addLog_none' addLog_some' St.step putL evalA eget hget argE freshE freshO freshH AV.ids AV.idsL AV.ok1 AV.cells ids_box ids_arr liveBox liveArr isArr aPick aBin aUn aExtract aMakeFunc aConvert aNilCheck aFieldAddr aField cut aLen aIndexAddr aMin aMax aIndex bnd isInt aSlice aSlice0 aLoad aAlloc aBox aStore splice aMake updIds newIds zv_i64 zv_u8 zv_bool zv_nils zv_nilp cond_bool cond_int TI.isAgg TK.isSl TK.el okL avDps avDp avD List.map_cons List.map_nil List.append_nil List.nil_append List.cons_append List.length_cons List.length_nil List.take_succ_cons List.take_zero List.drop_succ_cons List.drop_zero List.take_nil List.drop_nil List.headD_cons List.getD_cons_zero List.getD_cons_succ List.mem_cons List.not_mem_nil List.getElem?_cons_zero List.getElem?_cons_succ List.toList_toArray Option.getD_some Option.getD_none Option.bind_some Option.bind_none Option.map_some Option.map_none Option.getD Option.toList Nat.zero_add Nat.add_zero Nat.zero_le Nat.le_refl if_true if_false ite_self true_and and_true false_and and_false true_or or_true false_or or_false not_true_eq_false not_false_eq_true ne_eq cond_true cond_false Bool.true_eq_false Bool.false_eq_true forall_const decide_true decide_false implies_true true_implies and_self or_self Nat.succ_ne_zero ints_len Int.toNat_natCast Int.ofNat_lt Int.ofNat_le Int.natCast_nonneg List.length_map decide_eq_true_eq AV.views AV.view AV.viewPs AV.viewP arrsOnly newNames List.length_append List.append_assoc Bool.not_true Bool.not_false AV.ok2 Int.ofNat_inj aBuild fillR fillP aBuildSlice dense elP aAppend esOf esOfP List.forall_mem_cons forall_eq_or_imp forall_eq zD zDp ti2 ti3 ti4 ti5 ti6 ti7 ti8 ti9 ti10 ti11 ti12 ti13 ti14 ti15 ti16 ti17 ti18 ti19 ti21 ti22 ti23 ti25 ti26 ti27 ti31 ti32 ti41 ti51 ti52 ti53 ti54 ti56 ti58 ti60 ti61 ti62 ti67 ti68 ti71 ti72 ti79 ti80 ti81 ti82 ti83 ti84 ti85 ti89 ti93 ti94 ti95 ti110 ti124 ti125 ti126 ti127 ti128 ti129 ti130 ti131 ti133 ti134 ti135 ti136 ti137

def choiceS (ch : List Int) (n : Int) : Bool := ascS ch && inS (n - 1) ch
theorem c50 (ch : List Int) (n : Int) (hch : ch.length ≤ LB) (h0 : 0 ≤ n) (h1 : n ≤ 1000000) : ACalls Try.prog 50 [.d (.sl (ints ch)), .d (.int .i64 n)] [] (.d (.bool (choiceS ch n))) [] := by
  refine ACalls.of_sem (n := 13) 0 [4] (fn := Try.f50) Try.func50 rfl rfl (.one rfl) rfl (by simp) (by simp [hget]) ?_
  (repeat with_reducible first | refine Walk.seq ?_ | refine Walk.block ?_ | refine Walk.skip ?_ | refine Walk.inBlock ?_ | refine Walk.label ?_ | refine Walk.scope ?_ | refine Walk.inScope ?_ | refine Walk.exit rfl ?_)
  refine Walk.region' rfl fun K hK => ?_
  simp only [go_sem, Nat.reduceAdd, Nat.reduceMul, Nat.reduceSub, Nat.reduceLT, Nat.reduceLeDiff, Nat.reduceEqDiff, Nat.reduceBEq, Int.reduceToNat, Int.reduceLT, Int.reduceLE, Int.reduceEq, Int.reduceNeg, reduceIte, reduceCtorEq]
  refine hK _ ?_
  clear hK K
  (repeat with_reducible first | refine Walk.seq ?_ | refine Walk.block ?_ | refine Walk.skip ?_ | refine Walk.inBlock ?_ | refine Walk.label ?_ | refine Walk.scope ?_ | refine Walk.inScope ?_ | refine Walk.exit rfl ?_)
  refine Walk.region' rfl fun K hK => ?_
  simp only [go_sem, Nat.reduceAdd, Nat.reduceMul, Nat.reduceSub, Nat.reduceLT, Nat.reduceLeDiff, Nat.reduceEqDiff, Nat.reduceBEq, Int.reduceToNat, Int.reduceLT, Int.reduceLE, Int.reduceEq, Int.reduceNeg, reduceIte, reduceCtorEq]
  refine VCl.pure rfl rfl (c58 ch hch) (by simp only [go_sem, Nat.reduceAdd, Nat.reduceMul, Nat.reduceSub, Nat.reduceLT, Nat.reduceLeDiff, Nat.reduceEqDiff, Nat.reduceBEq, Int.reduceToNat, Int.reduceLT, Int.reduceLE, Int.reduceEq, Int.reduceNeg, reduceIte, reduceCtorEq]; try simp) (by simp only [go_sem, Nat.reduceAdd, Nat.reduceMul, Nat.reduceSub, Nat.reduceLT, Nat.reduceLeDiff, Nat.reduceEqDiff, Nat.reduceBEq, Int.reduceToNat, Int.reduceLT, Int.reduceLE, Int.reduceEq, Int.reduceNeg, reduceIte, reduceCtorEq]; try simp) (by simp only [go_sem, Nat.reduceAdd, Nat.reduceMul, Nat.reduceSub, Nat.reduceLT, Nat.reduceLeDiff, Nat.reduceEqDiff, Nat.reduceBEq, Int.reduceToNat, Int.reduceLT, Int.reduceLE, Int.reduceEq, Int.reduceNeg, reduceIte, reduceCtorEq]; try simp) (by simp only [go_sem, Nat.reduceAdd, Nat.reduceMul, Nat.reduceSub, Nat.reduceLT, Nat.reduceLeDiff, Nat.reduceEqDiff, Nat.reduceBEq, Int.reduceToNat, Int.reduceLT, Int.reduceLE, Int.reduceEq, Int.reduceNeg, reduceIte, reduceCtorEq]; try simp) (by simp only [go_sem, Nat.reduceAdd, Nat.reduceMul, Nat.reduceSub, Nat.reduceLT, Nat.reduceLeDiff, Nat.reduceEqDiff, Nat.reduceBEq, Int.reduceToNat, Int.reduceLT, Int.reduceLE, Int.reduceEq, Int.reduceNeg, reduceIte, reduceCtorEq]; try simp) (by simp only [go_sem, Nat.reduceAdd, Nat.reduceMul, Nat.reduceSub, Nat.reduceLT, Nat.reduceLeDiff, Nat.reduceEqDiff, Nat.reduceBEq, Int.reduceToNat, Int.reduceLT, Int.reduceLE, Int.reduceEq, Int.reduceNeg, reduceIte, reduceCtorEq]; try simp) ?_
  simp only [go_sem, Nat.reduceAdd, Nat.reduceMul, Nat.reduceSub, Nat.reduceLT, Nat.reduceLeDiff, Nat.reduceEqDiff, Nat.reduceBEq, Int.reduceToNat, Int.reduceLT, Int.reduceLE, Int.reduceEq, Int.reduceNeg, reduceIte, reduceCtorEq]
  refine VGd_cases (fun hg => ?_) (fun hg => ?_)
  · simp only [go_sem, Nat.reduceAdd, Nat.reduceMul, Nat.reduceSub, Nat.reduceLT, Nat.reduceLeDiff, Nat.reduceEqDiff, Nat.reduceBEq, Int.reduceToNat, Int.reduceLT, Int.reduceLE, Int.reduceEq, Int.reduceNeg, reduceIte, reduceCtorEq, hg, wrap64 (x := n - 1) (by omega) (by omega)]
    refine VCl.pure rfl rfl (c54 (n - 1) ch hch) (by simp only [go_sem, Nat.reduceAdd, Nat.reduceMul, Nat.reduceSub, Nat.reduceLT, Nat.reduceLeDiff, Nat.reduceEqDiff, Nat.reduceBEq, Int.reduceToNat, Int.reduceLT, Int.reduceLE, Int.reduceEq, Int.reduceNeg, reduceIte, reduceCtorEq, hg]; try simp) (by simp only [go_sem, Nat.reduceAdd, Nat.reduceMul, Nat.reduceSub, Nat.reduceLT, Nat.reduceLeDiff, Nat.reduceEqDiff, Nat.reduceBEq, Int.reduceToNat, Int.reduceLT, Int.reduceLE, Int.reduceEq, Int.reduceNeg, reduceIte, reduceCtorEq, hg]; try simp) (by simp only [go_sem, Nat.reduceAdd, Nat.reduceMul, Nat.reduceSub, Nat.reduceLT, Nat.reduceLeDiff, Nat.reduceEqDiff, Nat.reduceBEq, Int.reduceToNat, Int.reduceLT, Int.reduceLE, Int.reduceEq, Int.reduceNeg, reduceIte, reduceCtorEq, hg]; try simp) (by simp only [go_sem, Nat.reduceAdd, Nat.reduceMul, Nat.reduceSub, Nat.reduceLT, Nat.reduceLeDiff, Nat.reduceEqDiff, Nat.reduceBEq, Int.reduceToNat, Int.reduceLT, Int.reduceLE, Int.reduceEq, Int.reduceNeg, reduceIte, reduceCtorEq, hg]; try simp) (by simp only [go_sem, Nat.reduceAdd, Nat.reduceMul, Nat.reduceSub, Nat.reduceLT, Nat.reduceLeDiff, Nat.reduceEqDiff, Nat.reduceBEq, Int.reduceToNat, Int.reduceLT, Int.reduceLE, Int.reduceEq, Int.reduceNeg, reduceIte, reduceCtorEq, hg]; try simp) (by simp only [go_sem, Nat.reduceAdd, Nat.reduceMul, Nat.reduceSub, Nat.reduceLT, Nat.reduceLeDiff, Nat.reduceEqDiff, Nat.reduceBEq, Int.reduceToNat, Int.reduceLT, Int.reduceLE, Int.reduceEq, Int.reduceNeg, reduceIte, reduceCtorEq, hg]; try simp) ?_
    simp only [go_sem, Nat.reduceAdd, Nat.reduceMul, Nat.reduceSub, Nat.reduceLT, Nat.reduceLeDiff, Nat.reduceEqDiff, Nat.reduceBEq, Int.reduceToNat, Int.reduceLT, Int.reduceLE, Int.reduceEq, Int.reduceNeg, reduceIte, reduceCtorEq, hg]
    refine hK _ ?_
    clear hK K
    (repeat with_reducible first | refine Walk.seq ?_ | refine Walk.block ?_ | refine Walk.skip ?_ | refine Walk.inBlock ?_ | refine Walk.label ?_ | refine Walk.scope ?_ | refine Walk.inScope ?_ | refine Walk.exit rfl ?_)
    refine Walk.ret ⟨?_, by simp [subH, hget]⟩
    simp only [retAV, eget, List.map_cons, List.map_nil, reduceIte, Nat.reduceEqDiff, if_true, if_false, choiceS, hg, cond_true, Bool.true_and]
  · simp only [go_sem, Nat.reduceAdd, Nat.reduceMul, Nat.reduceSub, Nat.reduceLT, Nat.reduceLeDiff, Nat.reduceEqDiff, Nat.reduceBEq, Int.reduceToNat, Int.reduceLT, Int.reduceLE, Int.reduceEq, Int.reduceNeg, reduceIte, reduceCtorEq, hg]
    refine hK _ ?_
    clear hK K
    (repeat with_reducible first | refine Walk.seq ?_ | refine Walk.block ?_ | refine Walk.skip ?_ | refine Walk.inBlock ?_ | refine Walk.label ?_ | refine Walk.scope ?_ | refine Walk.inScope ?_ | refine Walk.exit rfl ?_)
    refine Walk.ret ⟨?_, by simp [subH, hget]⟩
    simp only [retAV, eget, List.map_cons, List.map_nil, reduceIte, Nat.reduceEqDiff, if_true, if_false, choiceS, hg, cond_false, Bool.false_and]

structure RowS where
  coefs : List Int
  least : Int
  most : Int
  deriving DecidableEq
def rowD (r : RowS) : List D := [.sl (ints r.coefs), .int .i64 r.least, .int .i64 r.most]
def rows (l : List RowS) : List (List D) := l.map rowD
theorem rows_len (l : List RowS) : (rows l).length = l.length := by simp [rows]
theorem rows_getD {l : List RowS} {i : Nat} (h : i < l.length) : (rows l).getD i [] = [.sl (ints l[i].coefs), .int .i64 l[i].least, .int .i64 l[i].most] := by simp [rows, h, rowD]

def rowOkS (n : Nat) (r : RowS) : Bool := decide (r.coefs.length = n) && (smallS r.coefs && (!decide (max r.least r.most > 1000000) && !decide (min r.least r.most < -1000000)))
def validS (cs : List Int) (rs : List RowS) : Bool := !decide (12 < cs.length) && (inS 10000 cs && (!decide (60 < rs.length) && rs.all (rowOkS cs.length)))

theorem c32 (cs : List Int) (rs : List RowS) (hcs : cs.length ≤ LB) (hrs : rs.length ≤ LB) (hr : ∀ r ∈ rs, r.coefs.length ≤ LB) :
    ACalls Try.prog 32 [.agg [.d (.sl (ints cs)), .d (.sl (rows rs))]] [] (.d (.bool (validS cs rs))) [] := by
  have hrs' := hrs
  unfold LB at hrs'
  refine ACalls.of_sem (n := 58) 0 [2] (fn := Try.f32) Try.func32 rfl rfl (.one rfl) rfl (by simp) (by simp [hget]) ?_
  (repeat with_reducible first | refine Walk.seq ?_ | refine Walk.block ?_ | refine Walk.skip ?_ | refine Walk.inBlock ?_ | refine Walk.label ?_ | refine Walk.scope ?_ | refine Walk.inScope ?_ | refine Walk.exit rfl ?_)
  refine Walk.region' rfl fun K hK => ?_
  simp only [go_sem, rows_len, Nat.reduceAdd, Nat.reduceMul, Nat.reduceSub, Nat.reduceLT, Nat.reduceLeDiff, Nat.reduceEqDiff, Nat.reduceBEq, Int.reduceToNat, Int.reduceLT, Int.reduceLE, Int.reduceEq, Int.reduceNeg, reduceIte, reduceCtorEq]
  refine hK _ ?_
  clear hK K
  (repeat with_reducible first | refine Walk.seq ?_ | refine Walk.block ?_ | refine Walk.skip ?_ | refine Walk.inBlock ?_ | refine Walk.label ?_ | refine Walk.scope ?_ | refine Walk.inScope ?_ | refine Walk.exit rfl ?_)
  refine Walk.region' rfl fun K hK => ?_
  simp only [go_sem, rows_len, Nat.reduceAdd, Nat.reduceMul, Nat.reduceSub, Nat.reduceLT, Nat.reduceLeDiff, Nat.reduceEqDiff, Nat.reduceBEq, Int.reduceToNat, Int.reduceLT, Int.reduceLE, Int.reduceEq, Int.reduceNeg, reduceIte, reduceCtorEq]
  refine VGd_cases (fun hg => ?_) (fun hg => ?_)
  · simp only [go_sem, rows_len, Nat.reduceAdd, Nat.reduceMul, Nat.reduceSub, Nat.reduceLT, Nat.reduceLeDiff, Nat.reduceEqDiff, Nat.reduceBEq, Int.reduceToNat, Int.reduceLT, Int.reduceLE, Int.reduceEq, Int.reduceNeg, reduceIte, reduceCtorEq, hg]
    refine hK _ ?_
    clear hK K
    (repeat with_reducible first | refine Walk.seq ?_ | refine Walk.block ?_ | refine Walk.skip ?_ | refine Walk.inBlock ?_ | refine Walk.label ?_ | refine Walk.scope ?_ | refine Walk.inScope ?_ | refine Walk.exit rfl ?_)
    refine Walk.cond rfl (fun hc => ?_) (fun hc => ?_)
    · (repeat with_reducible first | refine Walk.seq ?_ | refine Walk.block ?_ | refine Walk.skip ?_ | refine Walk.inBlock ?_ | refine Walk.label ?_ | refine Walk.scope ?_ | refine Walk.inScope ?_ | refine Walk.exit rfl ?_)
      refine Walk.region' rfl fun K hK => ?_
      simp only [go_sem, rows_len, Nat.reduceAdd, Nat.reduceMul, Nat.reduceSub, Nat.reduceLT, Nat.reduceLeDiff, Nat.reduceEqDiff, Nat.reduceBEq, Int.reduceToNat, Int.reduceLT, Int.reduceLE, Int.reduceEq, Int.reduceNeg, reduceIte, reduceCtorEq]
      refine hK _ ?_
      clear hK K
      (repeat with_reducible first | refine Walk.seq ?_ | refine Walk.block ?_ | refine Walk.skip ?_ | refine Walk.inBlock ?_ | refine Walk.label ?_ | refine Walk.scope ?_ | refine Walk.inScope ?_ | refine Walk.exit rfl ?_)
      refine Walk.ret ⟨?_, by simp [subH, hget]⟩
      simp only [retAV, eget, List.map_cons, List.map_nil, reduceIte, Nat.reduceEqDiff, if_true, if_false]
      simp only [decide_eq_true_eq] at hg
      have : validS cs rs = false := by simp only [validS]; rw [show decide (12 < cs.length) = true by simp; omega]; rfl
      rw [this]
    · simp at hc
  have g1 : decide (12 < cs.length) = false := by simp only [decide_eq_false_iff_not] at hg ⊢; omega
  simp only [go_sem, rows_len, Nat.reduceAdd, Nat.reduceMul, Nat.reduceSub, Nat.reduceLT, Nat.reduceLeDiff, Nat.reduceEqDiff, Nat.reduceBEq, Int.reduceToNat, Int.reduceLT, Int.reduceLE, Int.reduceEq, Int.reduceNeg, reduceIte, reduceCtorEq, hg]
  refine VCl.pure rfl rfl (c54 10000 cs hcs) (by simp only [go_sem, rows_len, Nat.reduceAdd, Nat.reduceMul, Nat.reduceSub, Nat.reduceLT, Nat.reduceLeDiff, Nat.reduceEqDiff, Nat.reduceBEq, Int.reduceToNat, Int.reduceLT, Int.reduceLE, Int.reduceEq, Int.reduceNeg, reduceIte, reduceCtorEq, hg]; try simp) (by simp only [go_sem, rows_len, Nat.reduceAdd, Nat.reduceMul, Nat.reduceSub, Nat.reduceLT, Nat.reduceLeDiff, Nat.reduceEqDiff, Nat.reduceBEq, Int.reduceToNat, Int.reduceLT, Int.reduceLE, Int.reduceEq, Int.reduceNeg, reduceIte, reduceCtorEq, hg]; try simp) (by simp only [go_sem, rows_len, Nat.reduceAdd, Nat.reduceMul, Nat.reduceSub, Nat.reduceLT, Nat.reduceLeDiff, Nat.reduceEqDiff, Nat.reduceBEq, Int.reduceToNat, Int.reduceLT, Int.reduceLE, Int.reduceEq, Int.reduceNeg, reduceIte, reduceCtorEq, hg]; try simp) (by simp only [go_sem, rows_len, Nat.reduceAdd, Nat.reduceMul, Nat.reduceSub, Nat.reduceLT, Nat.reduceLeDiff, Nat.reduceEqDiff, Nat.reduceBEq, Int.reduceToNat, Int.reduceLT, Int.reduceLE, Int.reduceEq, Int.reduceNeg, reduceIte, reduceCtorEq, hg]; try simp) (by simp only [go_sem, rows_len, Nat.reduceAdd, Nat.reduceMul, Nat.reduceSub, Nat.reduceLT, Nat.reduceLeDiff, Nat.reduceEqDiff, Nat.reduceBEq, Int.reduceToNat, Int.reduceLT, Int.reduceLE, Int.reduceEq, Int.reduceNeg, reduceIte, reduceCtorEq, hg]; try simp) (by simp only [go_sem, rows_len, Nat.reduceAdd, Nat.reduceMul, Nat.reduceSub, Nat.reduceLT, Nat.reduceLeDiff, Nat.reduceEqDiff, Nat.reduceBEq, Int.reduceToNat, Int.reduceLT, Int.reduceLE, Int.reduceEq, Int.reduceNeg, reduceIte, reduceCtorEq, hg]; try simp) ?_
  simp only [go_sem, rows_len, Nat.reduceAdd, Nat.reduceMul, Nat.reduceSub, Nat.reduceLT, Nat.reduceLeDiff, Nat.reduceEqDiff, Nat.reduceBEq, Int.reduceToNat, Int.reduceLT, Int.reduceLE, Int.reduceEq, Int.reduceNeg, reduceIte, reduceCtorEq, hg]
  refine VGd_cases (fun hg => ?_) (fun hg => ?_)
  · have g2 : inS 10000 cs = false := by cases h : inS 10000 cs with | false => rfl | true => rw [h] at hg; cases hg
    simp only [go_sem, rows_len, Nat.reduceAdd, Nat.reduceMul, Nat.reduceSub, Nat.reduceLT, Nat.reduceLeDiff, Nat.reduceEqDiff, Nat.reduceBEq, Int.reduceToNat, Int.reduceLT, Int.reduceLE, Int.reduceEq, Int.reduceNeg, reduceIte, reduceCtorEq, hg, g2]
    refine hK _ ?_
    clear hK K
    (repeat with_reducible first | refine Walk.seq ?_ | refine Walk.block ?_ | refine Walk.skip ?_ | refine Walk.inBlock ?_ | refine Walk.label ?_ | refine Walk.scope ?_ | refine Walk.inScope ?_ | refine Walk.exit rfl ?_)
    refine Walk.cond rfl (fun hc => ?_) (fun hc => ?_)
    · (repeat with_reducible first | refine Walk.seq ?_ | refine Walk.block ?_ | refine Walk.skip ?_ | refine Walk.inBlock ?_ | refine Walk.label ?_ | refine Walk.scope ?_ | refine Walk.inScope ?_ | refine Walk.exit rfl ?_)
      refine Walk.region' rfl fun K hK => ?_
      simp only [go_sem, rows_len, Nat.reduceAdd, Nat.reduceMul, Nat.reduceSub, Nat.reduceLT, Nat.reduceLeDiff, Nat.reduceEqDiff, Nat.reduceBEq, Int.reduceToNat, Int.reduceLT, Int.reduceLE, Int.reduceEq, Int.reduceNeg, reduceIte, reduceCtorEq]
      refine hK _ ?_
      clear hK K
      (repeat with_reducible first | refine Walk.seq ?_ | refine Walk.block ?_ | refine Walk.skip ?_ | refine Walk.inBlock ?_ | refine Walk.label ?_ | refine Walk.scope ?_ | refine Walk.inScope ?_ | refine Walk.exit rfl ?_)
      refine Walk.ret ⟨?_, by simp [subH, hget]⟩
      simp only [retAV, eget, List.map_cons, List.map_nil, reduceIte, Nat.reduceEqDiff, if_true, if_false]
      have : validS cs rs = false := by simp only [validS, g1, g2]; rfl
      rw [this]
    · simp at hc
  have g2 : inS 10000 cs = true := by cases h : inS 10000 cs with | true => rfl | false => rw [h] at hg; cases hg
  simp only [go_sem, rows_len, Nat.reduceAdd, Nat.reduceMul, Nat.reduceSub, Nat.reduceLT, Nat.reduceLeDiff, Nat.reduceEqDiff, Nat.reduceBEq, Int.reduceToNat, Int.reduceLT, Int.reduceLE, Int.reduceEq, Int.reduceNeg, reduceIte, reduceCtorEq, g2]
  refine hK _ ?_
  clear hK K
  (repeat with_reducible first | refine Walk.seq ?_ | refine Walk.block ?_ | refine Walk.skip ?_ | refine Walk.inBlock ?_ | refine Walk.label ?_ | refine Walk.scope ?_ | refine Walk.inScope ?_ | refine Walk.exit rfl ?_)
  refine Walk.cond rfl (fun hc => ?_) (fun hc => ?_)
  · simp at hc
    (repeat with_reducible first | refine Walk.seq ?_ | refine Walk.block ?_ | refine Walk.skip ?_ | refine Walk.inBlock ?_ | refine Walk.label ?_ | refine Walk.scope ?_ | refine Walk.inScope ?_ | refine Walk.exit rfl ?_)
    refine Walk.region' rfl fun K hK => ?_
    simp only [go_sem, rows_len, Nat.reduceAdd, Nat.reduceMul, Nat.reduceSub, Nat.reduceLT, Nat.reduceLeDiff, Nat.reduceEqDiff, Nat.reduceBEq, Int.reduceToNat, Int.reduceLT, Int.reduceLE, Int.reduceEq, Int.reduceNeg, reduceIte, reduceCtorEq]
    refine hK _ ?_
    clear hK K
    (repeat with_reducible first | refine Walk.seq ?_ | refine Walk.block ?_ | refine Walk.skip ?_ | refine Walk.inBlock ?_ | refine Walk.label ?_ | refine Walk.scope ?_ | refine Walk.inScope ?_ | refine Walk.exit rfl ?_)
    refine Walk.ret ⟨?_, by simp [subH, hget]⟩
    simp only [retAV, eget, List.map_cons, List.map_nil, reduceIte, Nat.reduceEqDiff, if_true, if_false]
    have : validS cs rs = false := by simp only [validS, g1, g2]; rw [show decide (60 < rs.length) = true by simp; omega]; rfl
    rw [this]
  have g3 : decide (60 < rs.length) = false := by simp at hc ⊢; omega
  (repeat with_reducible first | refine Walk.seq ?_ | refine Walk.block ?_ | refine Walk.skip ?_ | refine Walk.inBlock ?_ | refine Walk.label ?_ | refine Walk.scope ?_ | refine Walk.inScope ?_ | refine Walk.exit rfl ?_)
  refine Walk.region' rfl fun K hK => ?_
  simp only [go_sem, rows_len, Nat.reduceAdd, Nat.reduceMul, Nat.reduceSub, Nat.reduceLT, Nat.reduceLeDiff, Nat.reduceEqDiff, Nat.reduceBEq, Int.reduceToNat, Int.reduceLT, Int.reduceLE, Int.reduceEq, Int.reduceNeg, reduceIte, reduceCtorEq]
  refine hK _ ?_
  clear hK K
  (repeat with_reducible first | refine Walk.seq ?_ | refine Walk.block ?_ | refine Walk.skip ?_ | refine Walk.inBlock ?_ | refine Walk.label ?_ | refine Walk.scope ?_ | refine Walk.inScope ?_ | refine Walk.exit rfl ?_)
  refine Walk.loop ?_
  refine Walk.weaken ⟨[(24, .d (.int .i64 (0 : Nat))), (23, .d (.int .i64 rs.length)), (22, .d (.sl (rows rs))), (1, .box 1 0)], [(1, some (.box [.d (.sl (ints cs)), .d (.sl (rows rs))]))]⟩ (by simp [subE, eget]) (by simp [subH, hget]) ?_
  refine Walk.loopI (fun i : Nat => ⟨[(24, .d (.int .i64 i)), (23, .d (.int .i64 rs.length)), (22, .d (.sl (rows rs))), (1, .box 1 0)], [(1, some (.box [.d (.sl (ints cs)), .d (.sl (rows rs))]))]⟩)
    (fun i => i ≤ rs.length ∧ ∀ j (h : j < rs.length), j < i → rowOkS cs.length rs[j] = true) (fun i => rs.length - i) (fun i ⟨hi, hall⟩ ih => ?_) 0 ⟨by omega, fun j _ h => by omega⟩
  (repeat with_reducible first | refine Walk.seq ?_ | refine Walk.block ?_ | refine Walk.skip ?_ | refine Walk.inBlock ?_ | refine Walk.label ?_ | refine Walk.scope ?_ | refine Walk.inScope ?_ | refine Walk.exit rfl ?_)
  refine Walk.region' rfl fun K hK => ?_
  simp only [go_sem, rows_len, Nat.reduceAdd, Nat.reduceMul, Nat.reduceSub, Nat.reduceLT, Nat.reduceLeDiff, Nat.reduceEqDiff, Nat.reduceBEq, Int.reduceToNat, Int.reduceLT, Int.reduceLE, Int.reduceEq, Int.reduceNeg, reduceIte, reduceCtorEq]
  refine hK _ ?_
  clear hK K
  (repeat with_reducible first | refine Walk.seq ?_ | refine Walk.block ?_ | refine Walk.skip ?_ | refine Walk.inBlock ?_ | refine Walk.label ?_ | refine Walk.scope ?_ | refine Walk.inScope ?_ | refine Walk.exit rfl ?_)
  refine Walk.cond rfl (fun hc => ?_) (fun hc => ?_)
  · simp only [decide_eq_true_eq] at hc
    have hc' := hc
    have bad : rowOkS cs.length rs[i] = false → AV.d (.bool false) = AV.d (.bool (validS cs rs)) := fun h => by
      have : rs.all (rowOkS cs.length) = false := by
        rw [List.all_eq_false]
        exact ⟨rs[i], by simp, by simp [h]⟩
      simp [validS, this]
    (repeat with_reducible first | refine Walk.seq ?_ | refine Walk.block ?_ | refine Walk.skip ?_ | refine Walk.inBlock ?_ | refine Walk.label ?_ | refine Walk.scope ?_ | refine Walk.inScope ?_ | refine Walk.exit rfl ?_)
    refine Walk.region' rfl fun K hK => ?_
    simp only [go_sem, rows_len, Nat.reduceAdd, Nat.reduceMul, Nat.reduceSub, Nat.reduceLT, Nat.reduceLeDiff, Nat.reduceEqDiff, Nat.reduceBEq, Int.reduceToNat, Int.reduceLT, Int.reduceLE, Int.reduceEq, Int.reduceNeg, reduceIte, reduceCtorEq, rows_getD hc, hc]
    refine hK _ ?_
    clear hK K
    (repeat with_reducible first | refine Walk.seq ?_ | refine Walk.block ?_ | refine Walk.skip ?_ | refine Walk.inBlock ?_ | refine Walk.label ?_ | refine Walk.scope ?_ | refine Walk.inScope ?_ | refine Walk.exit rfl ?_)
    refine Walk.region' rfl fun K hK => ?_
    simp only [go_sem, rows_len, Nat.reduceAdd, Nat.reduceMul, Nat.reduceSub, Nat.reduceLT, Nat.reduceLeDiff, Nat.reduceEqDiff, Nat.reduceBEq, Int.reduceToNat, Int.reduceLT, Int.reduceLE, Int.reduceEq, Int.reduceNeg, reduceIte, reduceCtorEq]
    refine VGd_cases (fun hg => ?_) (fun hg => ?_)
    · simp only [go_sem, rows_len, Nat.reduceAdd, Nat.reduceMul, Nat.reduceSub, Nat.reduceLT, Nat.reduceLeDiff, Nat.reduceEqDiff, Nat.reduceBEq, Int.reduceToNat, Int.reduceLT, Int.reduceLE, Int.reduceEq, Int.reduceNeg, reduceIte, reduceCtorEq, hg]
      refine hK _ ?_
      clear hK K
      (repeat with_reducible first | refine Walk.seq ?_ | refine Walk.block ?_ | refine Walk.skip ?_ | refine Walk.inBlock ?_ | refine Walk.label ?_ | refine Walk.scope ?_ | refine Walk.inScope ?_ | refine Walk.exit rfl ?_)
      refine Walk.cond rfl (fun hc => ?_) (fun hc => ?_)
      · (repeat with_reducible first | refine Walk.seq ?_ | refine Walk.block ?_ | refine Walk.skip ?_ | refine Walk.inBlock ?_ | refine Walk.label ?_ | refine Walk.scope ?_ | refine Walk.inScope ?_ | refine Walk.exit rfl ?_)
        refine Walk.region' rfl fun K hK => ?_
        simp only [go_sem, rows_len, Nat.reduceAdd, Nat.reduceMul, Nat.reduceSub, Nat.reduceLT, Nat.reduceLeDiff, Nat.reduceEqDiff, Nat.reduceBEq, Int.reduceToNat, Int.reduceLT, Int.reduceLE, Int.reduceEq, Int.reduceNeg, reduceIte, reduceCtorEq]
        refine hK _ ?_
        clear hK K
        (repeat with_reducible first | refine Walk.seq ?_ | refine Walk.block ?_ | refine Walk.skip ?_ | refine Walk.inBlock ?_ | refine Walk.label ?_ | refine Walk.scope ?_ | refine Walk.inScope ?_ | refine Walk.exit rfl ?_)
        refine Walk.ret ⟨?_, by simp [subH, hget]⟩
        simp only [retAV, eget, List.map_cons, List.map_nil, reduceIte, Nat.reduceEqDiff, if_true, if_false]
        refine bad ?_
        simp only [decide_eq_true_eq] at hg
        simp only [rowOkS]; rw [show decide (rs[i].coefs.length = cs.length) = false by simpa using hg]; rfl
      · simp at hc
    have r1 : decide (rs[i].coefs.length = cs.length) = true := by simpa using hg
    simp only [go_sem, rows_len, Nat.reduceAdd, Nat.reduceMul, Nat.reduceSub, Nat.reduceLT, Nat.reduceLeDiff, Nat.reduceEqDiff, Nat.reduceBEq, Int.reduceToNat, Int.reduceLT, Int.reduceLE, Int.reduceEq, Int.reduceNeg, reduceIte, reduceCtorEq, hg]
    refine VCl.pure rfl rfl (c46 rs[i].coefs (hr _ (by simp))) (by simp only [go_sem, rows_len, Nat.reduceAdd, Nat.reduceMul, Nat.reduceSub, Nat.reduceLT, Nat.reduceLeDiff, Nat.reduceEqDiff, Nat.reduceBEq, Int.reduceToNat, Int.reduceLT, Int.reduceLE, Int.reduceEq, Int.reduceNeg, reduceIte, reduceCtorEq, hg]; try simp) (by simp only [go_sem, rows_len, Nat.reduceAdd, Nat.reduceMul, Nat.reduceSub, Nat.reduceLT, Nat.reduceLeDiff, Nat.reduceEqDiff, Nat.reduceBEq, Int.reduceToNat, Int.reduceLT, Int.reduceLE, Int.reduceEq, Int.reduceNeg, reduceIte, reduceCtorEq, hg]; try simp) (by simp only [go_sem, rows_len, Nat.reduceAdd, Nat.reduceMul, Nat.reduceSub, Nat.reduceLT, Nat.reduceLeDiff, Nat.reduceEqDiff, Nat.reduceBEq, Int.reduceToNat, Int.reduceLT, Int.reduceLE, Int.reduceEq, Int.reduceNeg, reduceIte, reduceCtorEq, hg]; try simp) (by simp only [go_sem, rows_len, Nat.reduceAdd, Nat.reduceMul, Nat.reduceSub, Nat.reduceLT, Nat.reduceLeDiff, Nat.reduceEqDiff, Nat.reduceBEq, Int.reduceToNat, Int.reduceLT, Int.reduceLE, Int.reduceEq, Int.reduceNeg, reduceIte, reduceCtorEq, hg]; try simp) (by simp only [go_sem, rows_len, Nat.reduceAdd, Nat.reduceMul, Nat.reduceSub, Nat.reduceLT, Nat.reduceLeDiff, Nat.reduceEqDiff, Nat.reduceBEq, Int.reduceToNat, Int.reduceLT, Int.reduceLE, Int.reduceEq, Int.reduceNeg, reduceIte, reduceCtorEq, hg]; try simp) (by simp only [go_sem, rows_len, Nat.reduceAdd, Nat.reduceMul, Nat.reduceSub, Nat.reduceLT, Nat.reduceLeDiff, Nat.reduceEqDiff, Nat.reduceBEq, Int.reduceToNat, Int.reduceLT, Int.reduceLE, Int.reduceEq, Int.reduceNeg, reduceIte, reduceCtorEq, hg]; try simp) ?_
    simp only [go_sem, rows_len, Nat.reduceAdd, Nat.reduceMul, Nat.reduceSub, Nat.reduceLT, Nat.reduceLeDiff, Nat.reduceEqDiff, Nat.reduceBEq, Int.reduceToNat, Int.reduceLT, Int.reduceLE, Int.reduceEq, Int.reduceNeg, reduceIte, reduceCtorEq, hg]
    refine VGd_cases (fun hg => ?_) (fun hg => ?_)
    · have r2 : smallS rs[i].coefs = false := by cases h : smallS rs[i].coefs with | false => rfl | true => rw [h] at hg; cases hg
      simp only [go_sem, rows_len, Nat.reduceAdd, Nat.reduceMul, Nat.reduceSub, Nat.reduceLT, Nat.reduceLeDiff, Nat.reduceEqDiff, Nat.reduceBEq, Int.reduceToNat, Int.reduceLT, Int.reduceLE, Int.reduceEq, Int.reduceNeg, reduceIte, reduceCtorEq, hg, r2]
      refine hK _ ?_
      clear hK K
      (repeat with_reducible first | refine Walk.seq ?_ | refine Walk.block ?_ | refine Walk.skip ?_ | refine Walk.inBlock ?_ | refine Walk.label ?_ | refine Walk.scope ?_ | refine Walk.inScope ?_ | refine Walk.exit rfl ?_)
      refine Walk.cond rfl (fun hc => ?_) (fun hc => ?_)
      · (repeat with_reducible first | refine Walk.seq ?_ | refine Walk.block ?_ | refine Walk.skip ?_ | refine Walk.inBlock ?_ | refine Walk.label ?_ | refine Walk.scope ?_ | refine Walk.inScope ?_ | refine Walk.exit rfl ?_)
        refine Walk.region' rfl fun K hK => ?_
        simp only [go_sem, rows_len, Nat.reduceAdd, Nat.reduceMul, Nat.reduceSub, Nat.reduceLT, Nat.reduceLeDiff, Nat.reduceEqDiff, Nat.reduceBEq, Int.reduceToNat, Int.reduceLT, Int.reduceLE, Int.reduceEq, Int.reduceNeg, reduceIte, reduceCtorEq]
        refine hK _ ?_
        clear hK K
        (repeat with_reducible first | refine Walk.seq ?_ | refine Walk.block ?_ | refine Walk.skip ?_ | refine Walk.inBlock ?_ | refine Walk.label ?_ | refine Walk.scope ?_ | refine Walk.inScope ?_ | refine Walk.exit rfl ?_)
        refine Walk.ret ⟨?_, by simp [subH, hget]⟩
        simp only [retAV, eget, List.map_cons, List.map_nil, reduceIte, Nat.reduceEqDiff, if_true, if_false]
        exact bad (by simp only [rowOkS, r1, r2]; rfl)
      · simp at hc
    have r2 : smallS rs[i].coefs = true := by cases h : smallS rs[i].coefs with | true => rfl | false => rw [h] at hg; cases hg
    simp only [go_sem, rows_len, Nat.reduceAdd, Nat.reduceMul, Nat.reduceSub, Nat.reduceLT, Nat.reduceLeDiff, Nat.reduceEqDiff, Nat.reduceBEq, Int.reduceToNat, Int.reduceLT, Int.reduceLE, Int.reduceEq, Int.reduceNeg, reduceIte, reduceCtorEq, r2, hg]
    refine VGd_cases (fun hg => ?_) (fun hg => ?_)
    · simp only [go_sem, rows_len, Nat.reduceAdd, Nat.reduceMul, Nat.reduceSub, Nat.reduceLT, Nat.reduceLeDiff, Nat.reduceEqDiff, Nat.reduceBEq, Int.reduceToNat, Int.reduceLT, Int.reduceLE, Int.reduceEq, Int.reduceNeg, reduceIte, reduceCtorEq, hg]
      refine hK _ ?_
      clear hK K
      (repeat with_reducible first | refine Walk.seq ?_ | refine Walk.block ?_ | refine Walk.skip ?_ | refine Walk.inBlock ?_ | refine Walk.label ?_ | refine Walk.scope ?_ | refine Walk.inScope ?_ | refine Walk.exit rfl ?_)
      refine Walk.cond rfl (fun hc => ?_) (fun hc => ?_)
      · (repeat with_reducible first | refine Walk.seq ?_ | refine Walk.block ?_ | refine Walk.skip ?_ | refine Walk.inBlock ?_ | refine Walk.label ?_ | refine Walk.scope ?_ | refine Walk.inScope ?_ | refine Walk.exit rfl ?_)
        refine Walk.region' rfl fun K hK => ?_
        simp only [go_sem, rows_len, Nat.reduceAdd, Nat.reduceMul, Nat.reduceSub, Nat.reduceLT, Nat.reduceLeDiff, Nat.reduceEqDiff, Nat.reduceBEq, Int.reduceToNat, Int.reduceLT, Int.reduceLE, Int.reduceEq, Int.reduceNeg, reduceIte, reduceCtorEq]
        refine hK _ ?_
        clear hK K
        (repeat with_reducible first | refine Walk.seq ?_ | refine Walk.block ?_ | refine Walk.skip ?_ | refine Walk.inBlock ?_ | refine Walk.label ?_ | refine Walk.scope ?_ | refine Walk.inScope ?_ | refine Walk.exit rfl ?_)
        refine Walk.ret ⟨?_, by simp [subH, hget]⟩
        simp only [retAV, eget, List.map_cons, List.map_nil, reduceIte, Nat.reduceEqDiff, if_true, if_false]
        exact bad (by simp only [rowOkS, r1, r2, hg]; rfl)
      · simp at hc
    · have r3 := hg
      simp only [go_sem, rows_len, Nat.reduceAdd, Nat.reduceMul, Nat.reduceSub, Nat.reduceLT, Nat.reduceLeDiff, Nat.reduceEqDiff, Nat.reduceBEq, Int.reduceToNat, Int.reduceLT, Int.reduceLE, Int.reduceEq, Int.reduceNeg, reduceIte, reduceCtorEq, hg]
      refine hK _ ?_
      clear hK K
      (repeat with_reducible first | refine Walk.seq ?_ | refine Walk.block ?_ | refine Walk.skip ?_ | refine Walk.inBlock ?_ | refine Walk.label ?_ | refine Walk.scope ?_ | refine Walk.inScope ?_ | refine Walk.exit rfl ?_)
      refine Walk.cond rfl (fun hc => ?_) (fun hc => ?_)
      · (repeat with_reducible first | refine Walk.seq ?_ | refine Walk.block ?_ | refine Walk.skip ?_ | refine Walk.inBlock ?_ | refine Walk.label ?_ | refine Walk.scope ?_ | refine Walk.inScope ?_ | refine Walk.exit rfl ?_)
        refine Walk.region' rfl fun K hK => ?_
        simp only [go_sem, rows_len, Nat.reduceAdd, Nat.reduceMul, Nat.reduceSub, Nat.reduceLT, Nat.reduceLeDiff, Nat.reduceEqDiff, Nat.reduceBEq, Int.reduceToNat, Int.reduceLT, Int.reduceLE, Int.reduceEq, Int.reduceNeg, reduceIte, reduceCtorEq]
        refine hK _ ?_
        clear hK K
        (repeat with_reducible first | refine Walk.seq ?_ | refine Walk.block ?_ | refine Walk.skip ?_ | refine Walk.inBlock ?_ | refine Walk.label ?_ | refine Walk.scope ?_ | refine Walk.inScope ?_ | refine Walk.exit rfl ?_)
        refine Walk.ret ⟨?_, by simp [subH, hget]⟩
        simp only [retAV, eget, List.map_cons, List.map_nil, reduceIte, Nat.reduceEqDiff, if_true, if_false]
        exact bad (by simp only [rowOkS, r1, r2, r3, hc]; rfl)
      · have h1 : ∀ j (h : j < rs.length), j < i + 1 → rowOkS cs.length rs[j] = true := fun j h hj => by
          by_cases e : j = i
          · subst e; simp only [rowOkS, r1, r2, r3, hc]; rfl
          · exact hall j h (by omega)
        (repeat with_reducible first | refine Walk.seq ?_ | refine Walk.block ?_ | refine Walk.skip ?_ | refine Walk.inBlock ?_ | refine Walk.label ?_ | refine Walk.scope ?_ | refine Walk.inScope ?_ | refine Walk.exit rfl ?_)
        refine Walk.region' rfl fun K hK => ?_
        simp only [go_sem, rows_len, Nat.reduceAdd, Nat.reduceMul, Nat.reduceSub, Nat.reduceLT, Nat.reduceLeDiff, Nat.reduceEqDiff, Nat.reduceBEq, Int.reduceToNat, Int.reduceLT, Int.reduceLE, Int.reduceEq, Int.reduceNeg, reduceIte, reduceCtorEq, wrap64 (x := (i : Int) + 1) (by omega) (by omega)]
        refine hK _ ?_
        clear hK K
        (repeat with_reducible first | refine Walk.seq ?_ | refine Walk.block ?_ | refine Walk.skip ?_ | refine Walk.inBlock ?_ | refine Walk.label ?_ | refine Walk.scope ?_ | refine Walk.inScope ?_ | refine Walk.exit rfl ?_)
        refine Walk.weaken _ (by simp [subE, eget]) (by simp [subH, hget]) (ih (i + 1) ⟨by omega, h1⟩ (by omega))
  · simp only [decide_eq_false_iff_not] at hc
    (repeat with_reducible first | refine Walk.seq ?_ | refine Walk.block ?_ | refine Walk.skip ?_ | refine Walk.inBlock ?_ | refine Walk.label ?_ | refine Walk.scope ?_ | refine Walk.inScope ?_ | refine Walk.exit rfl ?_)
    refine Walk.region' rfl fun K hK => ?_
    simp only [go_sem, rows_len, Nat.reduceAdd, Nat.reduceMul, Nat.reduceSub, Nat.reduceLT, Nat.reduceLeDiff, Nat.reduceEqDiff, Nat.reduceBEq, Int.reduceToNat, Int.reduceLT, Int.reduceLE, Int.reduceEq, Int.reduceNeg, reduceIte, reduceCtorEq]
    refine hK _ ?_
    clear hK K
    (repeat with_reducible first | refine Walk.seq ?_ | refine Walk.block ?_ | refine Walk.skip ?_ | refine Walk.inBlock ?_ | refine Walk.label ?_ | refine Walk.scope ?_ | refine Walk.inScope ?_ | refine Walk.exit rfl ?_)
    refine Walk.ret ⟨?_, by simp [subH, hget]⟩
    simp only [retAV, eget, List.map_cons, List.map_nil, reduceIte, Nat.reduceEqDiff, if_true, if_false]
    have : rs.all (rowOkS cs.length) = true := by
      rw [List.all_eq_true]
      intro r hr
      obtain ⟨j, hj, rfl⟩ := List.getElem_of_mem hr
      exact hall j hj (by omega)
    simp only [validS, g1, g2, g3, this]
    rfl
end Go.AX
