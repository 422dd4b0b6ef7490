import Derived.Test.YtmggphnhfegffaaE3
set_option linter.unusedVariables false
set_option linter.unusedSimpArgs false
set_option maxRecDepth 20000
set_option maxHeartbeats 4000000
namespace Go.AX
open Go.Proofs
attribute [local simp] take_map_len subE subH eget hget upE upV upH upO_refl upO_box upVs freshE freshH freshO AV.ids AV.idsL ids_box ids_arr frE frV_refl frV_arr frH frO_refl frO_box frVs newOk evalA AV.viewXs AV.viewX AV.viewXP AV.viewXPs AV.viewPs AV.viewP AV.flat AV.flatL D.flat arrsOnly flatObjs newNames subOf closedIn allSome dstOk newOrOld avD avDp zv_i64 zv_u8 zv_bool zv_nils zv_nilp zv_str retAV aLoad cut TI.isAgg nlE nlH nlO_refl nlO_box nlVs nlV_refl nlV_nil iD uD bD tD lD List.map_set ti2 ti3 ti4 ti5 ti6 ti7 ti8 ti9 ti10 ti11 ti12 ti13 ti14 ti15 ti16 ti17 ti18 ti19 ti21 ti22 ti23 ti25 ti26 ti27 ti31 ti32 ti41 ti51 ti52 ti53 ti54 ti56 ti58 ti60 ti61 ti62 ti67 ti68 ti71 ti72 ti79 ti80 ti81 ti82 ti83 ti84 ti85 ti89 ti93 ti94 ti95 ti110 ti124 ti125 ti126 ti127 ti128 ti129 ti130 ti131 ti133 ti134 ti135 ti136 ti137 Row.D TRange.D Ref.D Form.D Part.D TItem.D
attribute [local go_sem] V1_none V1_some V_nil V_move V_assign V_pick V_bin V_un V_extract V_makeFunc V_convert V_nilCheck V_fieldAddr V_field V_load V_store V_indexAddr V_index V_slice V_slice0 V_alloc V_box V_build V_buildSlice V_makeSlice V_len V_min V_max V_append V_call V_guard VGs_some VG_tt VG_ff VG_tf VG_ft VG_u gslot ok fail po so aNew dstOk freshU addLog_none' addLog_some' St.step putL evalA eget hget argE freshE freshO freshH AV.ids AV.idsL AV.ok1 AV.cells ids_box ids_arr liveBox liveArr isArr aPick aBin aUn aExtract aMakeFunc aConvert aNilCheck aFieldAddr aField cut aLen aIndexAddr aMin aMax aIndex bnd isInt aSlice aSlice0 aLoad aAlloc aBox aStore splice aMake updIds newIds zv_i64 zv_u8 zv_bool zv_nils zv_nilp cond_bool cond_int TI.isAgg TK.isSl TK.el okL avDps avDp avD List.map_cons List.map_nil List.append_nil List.nil_append List.cons_append List.length_cons List.length_nil List.take_succ_cons List.take_zero List.drop_succ_cons List.drop_zero List.take_nil List.drop_nil List.headD_cons List.getD_cons_zero List.getD_cons_succ List.mem_cons List.not_mem_nil List.getElem?_cons_zero List.getElem?_cons_succ List.toList_toArray Option.getD_some Option.getD_none Option.bind_some Option.bind_none Option.map_some Option.map_none Option.getD Option.toList Nat.zero_add Nat.add_zero Nat.zero_le Nat.le_refl if_true if_false ite_self true_and and_true false_and and_false true_or or_true false_or or_false not_true_eq_false not_false_eq_true ne_eq cond_true cond_false Bool.true_eq_false Bool.false_eq_true forall_const decide_true decide_false implies_true true_implies and_self or_self Nat.succ_ne_zero Int.toNat_natCast Int.natCast_nonneg List.length_map decide_eq_true_eq AV.views AV.view AV.viewPs AV.viewP arrsOnly newNames List.length_append List.append_assoc Bool.not_true Bool.not_false AV.ok2 aBuild fillR fillP aBuildSlice dense elP aAppend esOf esOfP List.forall_mem_cons forall_eq_or_imp forall_eq zD zDp map_take' map_drop' iD uD bD tD lD iD_len uD_len bD_len tD_len lD_len LB Int.cast_ofNat_Int Int.natCast_zero Int.natCast_one head_len all_len List.head?_cons List.head?_nil Bool.not_not eq_self List.take_length zv_str aConv byteOf isByte map_bcell bytes_all str_map cellsEq cellsP AV.kd Bool.and_true Bool.true_and Bool.and_false Bool.false_and ti2 ti3 ti4 ti5 ti6 ti7 ti8 ti9 ti10 ti11 ti12 ti13 ti14 ti15 ti16 ti17 ti18 ti19 ti21 ti22 ti23 ti25 ti26 ti27 ti31 ti32 ti41 ti51 ti52 ti53 ti54 ti56 ti58 ti60 ti61 ti62 ti67 ti68 ti71 ti72 ti79 ti80 ti81 ti82 ti83 ti84 ti85 ti89 ti93 ti94 ti95 ti110 ti124 ti125 ti126 ti127 ti128 ti129 ti130 ti131 ti133 ti134 ti135 ti136 ti137 Row.D TRange.D Ref.D Form.D Part.D TItem.D Row.D_len TRange.D_len Ref.D_len Form.D_len Part.D_len TItem.D_len zs_ zs_48_49_50_51_52_53_54_55_56_57_48_49_50_51_52_53_54_55_56_57_48_49_50_51_52_53_54_55_56_57_48_49_50_51_52_53_54_55_56_57_120 zs_113 zs_116_97_98_9 eqf85_00
noncomputable def mk_Tape_Blueprint_l4 (v1 : List Int) (v699 : List Form) (v697 : Int) (v751 : Int) (v752 : Int) (v753 : List Ref) : Option ((Int × Int × List Ref) ⊕ ((Int × Int × List Form) ⊕ (Int × Int × Int × Int × List Form × List Int × List TRange × List TRange × Int × Int))) :=
  bif decide (v751 > 0) then ((mk_Tape_Next v1 v752 4).bind fun v756 => (mk_Tape_Range v1 v756.2 1 2).bind fun v757 => chk ((v753.length + 1) * 16 ≤ 140737488355328) (contO ((IntKind.i64.wrap (v751 - 1), v757.2, (v753 ++ [(Ref.mk v756.1 v757.1)])) : Int × Int × List Ref))) else (exitO (chk ((v699.length + 1) * 32 ≤ 140737488355328) (contO ((IntKind.i64.wrap (v697 - 1), v752, (v699 ++ [(Form.mk 0 v753)])) : Int × Int × List Form))))
noncomputable def mk_Tape_Blueprint_l3 (v1 : List Int) (v3 : Int) (v394 : Int × Int) (v395 : Int × Int) (v483 : List Int) (v461 : List TRange) (v425 : List TRange) (v391 : Int × Int) (v392 : Int × Int) (v393 : Int × Int) (v697 : Int) (v698 : Int) (v699 : List Form) : Option ((Int × Int × List Form) ⊕ (Int × Int × Int × Int × List Form × List Int × List TRange × List TRange × Int × Int)) :=
  bif decide (v697 > 0) then ((mk_Tape_Next v1 v698 4).bind fun v739 => iter (fun g : Int × Int × List Ref => mk_Tape_Blueprint_l4 v1 v699 v697 g.1 g.2.1 g.2.2) (v739.1, v739.2, [])) else (exitO (bif decide (v3 > 0) then ((mk_Tape_One v1 v698 v3).bind fun v758 => bif v758.1 then ((mk_Tape_Next v1 v758.2 7).bind fun v759 => bif decide (v759.1 = 0) then ((mk_Tape_Wild v1 v759.2).bind fun v760 => some ((v760.2, v760.1, v394.1, v395.1, v699, v483, v461, v425, IntKind.i64.wrap (v391.1 + v392.1), v393.1) : Int × Int × Int × Int × List Form × List Int × List TRange × List TRange × Int × Int)) else (bif decide (v759.1 = 1) then ((mk_Tape_Wild v1 v759.2).bind fun v761 => some ((v761.2, v391.1, v761.1, v395.1, v699, v483, v461, v425, IntKind.i64.wrap (v391.1 + v392.1), v393.1) : Int × Int × Int × Int × List Form × List Int × List TRange × List TRange × Int × Int)) else (bif decide (v759.1 = 2) then ((mk_Tape_Pick v1 v759.2 [-1, 12, 13]).bind fun v762 => some ((v762.2, v391.1, v394.1, v762.1, v699, v483, v461, v425, IntKind.i64.wrap (v391.1 + v392.1), v393.1) : Int × Int × Int × Int × List Form × List Int × List TRange × List TRange × Int × Int)) else (bif decide (v759.1 = 3) then ((mk_Tape_Pick v1 v759.2 [-1, 0, 15, 16]).bind fun v763 => (mk_Tape_Wild v1 v763.2).bind fun v764 => (mk_Tape_Wild v1 v764.2).bind fun v765 => chk ((v425.length + 1) * 24 ≤ 140737488355328) (some ((v765.2, v391.1, v394.1, v395.1, v699, v483, v461, (v425 ++ [(TRange.mk v763.1 v764.1 v765.1)]), IntKind.i64.wrap (v391.1 + v392.1), v393.1) : Int × Int × Int × Int × List Form × List Int × List TRange × List TRange × Int × Int))) else (bif decide (v759.1 = 4) then ((mk_Tape_Pick v1 v759.2 [0, -1, 9]).bind fun v766 => chk ((v483.length + 1) * 8 ≤ 140737488355328) (some ((v766.2, v391.1, v394.1, v395.1, v699, (v483 ++ [v766.1]), v461, v425, IntKind.i64.wrap (v391.1 + v392.1), v393.1) : Int × Int × Int × Int × List Form × List Int × List TRange × List TRange × Int × Int))) else (bif decide (v759.1 = 5) then (chk ((v699.length + 3) * 32 ≤ 140737488355328) (some ((v759.2, v391.1, v394.1, v395.1, (v699 ++ ([(Form.mk 0 []), (Form.mk 0 []), (Form.mk 0 [])])), v483, v461, v425, IntKind.i64.wrap (v391.1 + v392.1), v393.1) : Int × Int × Int × Int × List Form × List Int × List TRange × List TRange × Int × Int))) else ((mk_Tape_Pick v1 v759.2 [0, 5, 6]).bind fun v767 => chk ((v461.length + 1) * 24 ≤ 140737488355328) (some ((v767.2, v391.1, v394.1, v395.1, v699, v483, (v461 ++ [(TRange.mk v767.1 0 4)]), v425, IntKind.i64.wrap (v391.1 + v392.1), v393.1) : Int × Int × Int × Int × List Form × List Int × List TRange × List TRange × Int × Int))))))))) else (some ((v758.2, v391.1, v394.1, v395.1, v699, v483, v461, v425, IntKind.i64.wrap (v391.1 + v392.1), v393.1) : Int × Int × Int × Int × List Form × List Int × List TRange × List TRange × Int × Int))) else (some ((v698, v391.1, v394.1, v395.1, v699, v483, v461, v425, IntKind.i64.wrap (v391.1 + v392.1), v393.1) : Int × Int × Int × Int × List Form × List Int × List TRange × List TRange × Int × Int))))
noncomputable def mk_Tape_Blueprint_l2 (v1 : List Int) (v3 : Int) (v394 : Int × Int) (v395 : Int × Int) (v461 : List TRange) (v425 : List TRange) (v391 : Int × Int) (v392 : Int × Int) (v393 : Int × Int) (v481 : Int) (v482 : Int) (v483 : List Int) : Option ((Int × Int × List Int) ⊕ (Int × Int × Int × Int × List Form × List Int × List TRange × List TRange × Int × Int)) :=
  bif decide (v481 < 3) then ((mk_Tape_One v1 v482 5).bind fun v485 => bif v485.1 then (chk ((v483.length + 1) * 8 ≤ 140737488355328) (contO ((IntKind.i64.wrap (v481 + 1), v485.2, (v483 ++ [v481])) : Int × Int × List Int))) else (contO ((IntKind.i64.wrap (v481 + 1), v485.2, v483) : Int × Int × List Int))) else (exitO ((mk_Tape_Next v1 v482 3).bind fun v577 => iter (fun g : Int × Int × List Form => mk_Tape_Blueprint_l3 v1 v3 v394 v395 v483 v461 v425 v391 v392 v393 g.1 g.2.1 g.2.2) (v577.1, v577.2, [])))
noncomputable def mk_Tape_Blueprint_l1 (v1 : List Int) (v3 : Int) (v394 : Int × Int) (v395 : Int × Int) (v425 : List TRange) (v391 : Int × Int) (v392 : Int × Int) (v393 : Int × Int) (v459 : Int) (v460 : Int) (v461 : List TRange) : Option ((Int × Int × List TRange) ⊕ (Int × Int × Int × Int × List Form × List Int × List TRange × List TRange × Int × Int)) :=
  bif decide (v459 < 3) then ((mk_Tape_One v1 v460 4).bind fun v465 => bif v465.1 then ((mk_Tape_Next v1 v465.2 4).bind fun v466 => (mk_Tape_Range v1 v466.2 4 30).bind fun v467 => chk ((v461.length + 1) * 24 ≤ 140737488355328) (contO ((IntKind.i64.wrap (v459 + 1), v467.2, (v461 ++ [(TRange.mk v459 v466.1 v467.1)])) : Int × Int × List TRange))) else (contO ((IntKind.i64.wrap (v459 + 1), v465.2, v461) : Int × Int × List TRange))) else (exitO (iter (fun g : Int × Int × List Int => mk_Tape_Blueprint_l2 v1 v3 v394 v395 v461 v425 v391 v392 v393 g.1 g.2.1 g.2.2) (0, v460, [])))
noncomputable def mk_Tape_Blueprint_l0 (v1 : List Int) (v3 : Int) (v394 : Int × Int) (v395 : Int × Int) (v391 : Int × Int) (v392 : Int × Int) (v393 : Int × Int) (v423 : Int) (v424 : Int) (v425 : List TRange) : Option ((Int × Int × List TRange) ⊕ (Int × Int × Int × Int × List Form × List Int × List TRange × List TRange × Int × Int)) :=
  bif decide (v423 < 4) then ((mk_Tape_One v1 v424 3).bind fun v429 => bif v429.1 then ((mk_Tape_Next v1 v429.2 4).bind fun v430 => (mk_Tape_Range v1 v430.2 4 30).bind fun v431 => chk ((v425.length + 1) * 24 ≤ 140737488355328) (contO ((IntKind.i64.wrap (v423 + 1), v431.2, (v425 ++ [(TRange.mk v423 v430.1 v431.1)])) : Int × Int × List TRange))) else (contO ((IntKind.i64.wrap (v423 + 1), v429.2, v425) : Int × Int × List TRange))) else (exitO (iter (fun g : Int × Int × List TRange => mk_Tape_Blueprint_l1 v1 v3 v394 v395 v425 v391 v392 v393 g.1 g.2.1 g.2.2) (0, v424, [])))
noncomputable def mk_Tape_Blueprint (v1 : List Int) (v2 : Int) (v3 : Int) : Option (Int × Int × Int × Int × List Form × List Int × List TRange × List TRange × Int × Int) :=
  (mk_Tape_Next v1 v2 3).bind fun v391 => (mk_Tape_Range v1 v391.2 0 4).bind fun v392 => (mk_Tape_Next v1 v392.2 12).bind fun v393 => (mk_Tape_Range v1 v393.2 10 60).bind fun v394 => (mk_Tape_Next v1 v394.2 3).bind fun v395 => iter (fun g : Int × Int × List TRange => mk_Tape_Blueprint_l0 v1 v3 v394 v395 v391 v392 v393 g.1 g.2.1 g.2.2) (0, v395.2, [])
theorem mk_Tape_Blueprint_ok (v1 : List Int) (v2 : Int) (v3 : Int) (r : Int × Int × Int × Int × List Form × List Int × List TRange × List TRange × Int × Int) (hx : mk_Tape_Blueprint v1 v2 v3 = some r) :
    ACalls Try.prog 35 [.box 0 0, .d (.int .i64 v3)] [(0, some (.box [.d (.sl (List.map iD v1)), .d (.int .i64 v2)]))] (.agg [.d (.int .i64 r.2.1), .d (.int .i64 r.2.2.2.2.2.2.2.2.1), .d (.int .i64 r.2.2.2.2.2.2.2.2.2), .d (.int .i64 r.2.2.1), .arr 2001 0 r.2.2.2.2.2.2.2.1.length, .arr 2002 0 r.2.2.2.2.2.2.1.length, .arr 2003 0 r.2.2.2.2.2.1.length, .arr 2004 0 r.2.2.2.2.1.length, .d (.int .i64 r.2.2.2.1)]) [(0, some (.box [.d (.sl (List.map iD v1)), .d (.int .i64 r.1)])), (2001, some (.arr 80 3 (List.map TRange.D r.2.2.2.2.2.2.2.1))), (2002, some (.arr 80 3 (List.map TRange.D r.2.2.2.2.2.2.1))), (2003, some (.arr 3 1 (List.map iD r.2.2.2.2.2.1))), (2004, some (.arr 83 2 (List.map Form.D r.2.2.2.2.1)))] := by
  refine ACalls.of_cellS (n := 171) 1 4 54 (fn := Try.f35) Try.func35 rfl rfl rfl rfl (by simp) (by intro i; simp only [hget]; (repeat' split) <;> simp <;> omega) ?_
  unfold mk_Tape_Blueprint at hx
  refine Walk.seq (Walk.region' rfl fun K hK => ?_)
  simp only [go_sem, seval]
  refine hK _ ?_
  clear hK K
  refine Walk.seq (Walk.region' rfl fun K hK => ?_)
  obtain ⟨v391, h858, hx⟩ := bind_elim hx
  simp only [go_sem, seval]
  refine VCl.sub [(0, some (.box [.d (.sl (List.map iD v1)), .d (.int .i64 v2)]))] [] rfl (by simp only [go_sem, seval, AV.viewXs, AV.viewX, avD]; try simp) (mk_Tape_Next_ok v1 v2 3 _ h858) (by simp) (by simp) (by simp) (by simp) (by simp) (by simp) (by simp) (by simp) (by simp) (by simp) ?_
  simp only [go_sem, seval]
  refine hK _ ?_
  clear hK K
  refine Walk.weaken ⟨[(0, .box 0 0), (1, .d (.int .i64 v3)), (4, .box 5 0), (5, .d (.int .i64 v391.1))], [(0, some (.box [.d (.sl (List.map iD v1)), .d (.int .i64 v391.2)])), (5, some (.box [.d (.int .i64 0), .d (.int .i64 0), .d (.int .i64 0), .d (.int .i64 0), .nils, .nils, .nils, .nils, .d (.int .i64 0)]))]⟩ (by simp <;> omega) (by simp <;> omega) ?_
  refine Walk.seq (Walk.region' rfl fun K hK => ?_)
  obtain ⟨v392, h859, hx⟩ := bind_elim hx
  simp only [go_sem, seval]
  refine VCl.sub [(0, some (.box [.d (.sl (List.map iD v1)), .d (.int .i64 v391.2)]))] [] rfl (by simp only [go_sem, seval, AV.viewXs, AV.viewX, avD]; try simp) (mk_Tape_Range_ok v1 v391.2 0 4 _ h859) (by simp) (by simp) (by simp) (by simp) (by simp) (by simp) (by simp) (by simp) (by simp) (by simp) ?_
  obtain ⟨v393, h860, hx⟩ := bind_elim hx
  simp only [go_sem, seval]
  refine VCl.sub [(0, some (.box [.d (.sl (List.map iD v1)), .d (.int .i64 v392.2)]))] [] rfl (by simp only [go_sem, seval, AV.viewXs, AV.viewX, avD]; try simp) (mk_Tape_Next_ok v1 v392.2 12 _ h860) (by simp) (by simp) (by simp) (by simp) (by simp) (by simp) (by simp) (by simp) (by simp) (by simp) ?_
  obtain ⟨v394, h861, hx⟩ := bind_elim hx
  simp only [go_sem, seval]
  refine VCl.sub [(0, some (.box [.d (.sl (List.map iD v1)), .d (.int .i64 v393.2)]))] [] rfl (by simp only [go_sem, seval, AV.viewXs, AV.viewX, avD]; try simp) (mk_Tape_Range_ok v1 v393.2 10 60 _ h861) (by simp) (by simp) (by simp) (by simp) (by simp) (by simp) (by simp) (by simp) (by simp) (by simp) ?_
  obtain ⟨v395, h862, hx⟩ := bind_elim hx
  simp only [go_sem, seval]
  refine VCl.sub [(0, some (.box [.d (.sl (List.map iD v1)), .d (.int .i64 v394.2)]))] [] rfl (by simp only [go_sem, seval, AV.viewXs, AV.viewX, avD]; try simp) (mk_Tape_Next_ok v1 v394.2 3 _ h862) (by simp) (by simp) (by simp) (by simp) (by simp) (by simp) (by simp) (by simp) (by simp) (by simp) ?_
  simp only [go_sem, seval]
  refine hK _ ?_
  clear hK K
  refine Walk.weaken ⟨[(0, .box 0 0), (1, .d (.int .i64 v3)), (4, .box 5 0), (6, .box 7 0)], [(0, some (.box [.d (.sl (List.map iD v1)), .d (.int .i64 v395.2)])), (5, some (.box [.d (.int .i64 0), .d (.int .i64 0), .d (.int .i64 0), .d (.int .i64 0), .nils, .nils, .nils, .nils, .d (.int .i64 0)])), (7, some (.box [.d (.int .i64 v391.1), .d (.int .i64 (IntKind.i64.wrap (v391.1 + v392.1))), .d (.int .i64 v393.1), .d (.int .i64 v394.1), .nils, .nils, .nils, .nils, .d (.int .i64 v395.1)]))]⟩ (by simp <;> omega) (by simp <;> omega) ?_
  refine Walk.seq (Walk.seq (Walk.region' rfl fun K hK => ?_))
  simp only [go_sem, seval]
  refine hK _ ?_
  clear hK K
  refine Walk.block (Walk.loop ?_)
  refine Walk.weaken ⟨[(0, .box 0 0), (1, .d (.int .i64 v3)), (4, .box 5 0), (6, .box 7 0), (7, .d (.int .i64 0))], [(0, some (.box [.d (.sl (List.map iD v1)), .d (.int .i64 v395.2)])), (5, some (.box [.d (.int .i64 0), .d (.int .i64 0), .d (.int .i64 0), .d (.int .i64 0), .nils, .nils, .nils, .nils, .d (.int .i64 0)])), (7, some (.box [.d (.int .i64 v391.1), .d (.int .i64 (IntKind.i64.wrap (v391.1 + v392.1))), .d (.int .i64 v393.1), .d (.int .i64 v394.1), .nils, .nils, .nils, .nils, .d (.int .i64 v395.1)]))]⟩ (by simp <;> omega) (by simp <;> omega) ?_
  refine Walk.up 1042 80 3 [(0, .box 0 0), (1, .d (.int .i64 v3)), (4, .box 5 0), (6, .box 7 0), (7, .d (.int .i64 0))] [(0, some (.box [.d (.sl (List.map iD v1)), .d (.int .i64 v395.2)])), (5, some (.box [.d (.int .i64 0), .d (.int .i64 0), .d (.int .i64 0), .d (.int .i64 0), .nils, .nils, .nils, .nils, .d (.int .i64 0)])), (7, some (.box [.d (.int .i64 v391.1), .d (.int .i64 (IntKind.i64.wrap (v391.1 + v392.1))), .d (.int .i64 v393.1), .d (.int .i64 v394.1), .arr 1042 0 0, .nils, .nils, .nils, .d (.int .i64 v395.1)]))] (by simp) (by simp) (by omega) (by simp) (by simp) (by simp) ?_
  refine Walk.weaken ⟨[(0, .box 0 0), (1, .d (.int .i64 v3)), (4, .box 5 0), (6, .box 7 0), (7, .d (.int .i64 0))], [(0, some (.box [.d (.sl (List.map iD v1)), .d (.int .i64 v395.2)])), (5, some (.box [.d (.int .i64 0), .d (.int .i64 0), .d (.int .i64 0), .d (.int .i64 0), .nils, .nils, .nils, .nils, .d (.int .i64 0)])), (7, some (.box [.d (.int .i64 v391.1), .d (.int .i64 (IntKind.i64.wrap (v391.1 + v392.1))), .d (.int .i64 v393.1), .d (.int .i64 v394.1), .arr 1042 0 0, .nils, .nils, .nils, .d (.int .i64 v395.1)])), (1042, some (.arr 80 3 (List.map TRange.D [])))]⟩ (by simp <;> omega) (by simp <;> omega) ?_
  refine Walk.iter (σ := Int × Int × List TRange) (fun g => ⟨[(0, .box 0 0), (1, .d (.int .i64 v3)), (4, .box 5 0), (6, .box 7 0), (7, .d (.int .i64 g.1))], [(0, some (.box [.d (.sl (List.map iD v1)), .d (.int .i64 g.2.1)])), (5, some (.box [.d (.int .i64 0), .d (.int .i64 0), .d (.int .i64 0), .d (.int .i64 0), .nils, .nils, .nils, .nils, .d (.int .i64 0)])), (7, some (.box [.d (.int .i64 v391.1), .d (.int .i64 (IntKind.i64.wrap (v391.1 + v392.1))), .d (.int .i64 v393.1), .d (.int .i64 v394.1), .arr 1042 0 g.2.2.length, .nils, .nils, .nils, .d (.int .i64 v395.1)])), (1042, some (.arr 80 3 (List.map TRange.D g.2.2)))]⟩) (fun g : Int × Int × List TRange => mk_Tape_Blueprint_l0 v1 v3 v394 v395 v391 v392 v393 g.1 g.2.1 g.2.2) _ (fun g y1719 hx ih923 hr924 => ?_) (0, v395.2, []) hx
  obtain ⟨v423, v424, v425⟩ := g
  unfold mk_Tape_Blueprint_l0 at hx
  try dsimp only at hx ⊢
  refine Walk.seq (Walk.seq (Walk.region' rfl fun K hK => ?_))
  simp only [go_sem, seval]
  refine hK _ ?_
  clear hK K
  refine Walk.condO rfl hx (fun c927 hx => ?_) (fun c927 hx => ?_)
  · refine Walk.skip (Walk.seq (Walk.block (Walk.seq (Walk.region' rfl fun K hK => ?_))))
    obtain ⟨v429, h928, hx⟩ := bind_elim hx
    simp only [go_sem, seval, c927]
    refine VCl.sub [(0, some (.box [.d (.sl (List.map iD v1)), .d (.int .i64 v424)]))] [] rfl (by simp only [go_sem, seval, AV.viewXs, AV.viewX, avD, c927]; try simp) (mk_Tape_One_ok v1 v424 3 _ h928) (by simp [c927]) (by simp [c927]) (by simp [c927]) (by simp [c927]) (by simp [c927]) (by simp [c927]) (by simp [c927]) (by simp [c927]) (by simp [c927]) (by simp [c927]) ?_
    simp only [go_sem, seval, c927]
    refine hK _ ?_
    clear hK K
    refine Walk.weaken ⟨[(0, .box 0 0), (1, .d (.int .i64 v3)), (4, .box 5 0), (6, .box 7 0), (7, .d (.int .i64 v423)), (32, .d (.bool v429.1))], [(0, some (.box [.d (.sl (List.map iD v1)), .d (.int .i64 v429.2)])), (5, some (.box [.d (.int .i64 0), .d (.int .i64 0), .d (.int .i64 0), .d (.int .i64 0), .nils, .nils, .nils, .nils, .d (.int .i64 0)])), (7, some (.box [.d (.int .i64 v391.1), .d (.int .i64 (IntKind.i64.wrap (v391.1 + v392.1))), .d (.int .i64 v393.1), .d (.int .i64 v394.1), .arr 1042 0 v425.length, .nils, .nils, .nils, .d (.int .i64 v395.1)])), (1042, some (.arr 80 3 (List.map TRange.D v425)))]⟩ (by simp [c927] <;> omega) (by simp [c927] <;> omega) ?_
    refine Walk.condO rfl hx (fun c929 hx => ?_) (fun c929 hx => ?_)
    · refine Walk.drawn' rfl mixed fun K hK => ?_
      obtain ⟨v430, h930, hx⟩ := bind_elim hx
      simp only [go_sem, seval, c927, c929]
      refine VCl.sub [(0, some (.box [.d (.sl (List.map iD v1)), .d (.int .i64 v429.2)]))] [] rfl (by simp only [go_sem, seval, AV.viewXs, AV.viewX, avD, c927, c929]; try simp) (mk_Tape_Next_ok v1 v429.2 4 _ h930) (by simp [c927, c929]) (by simp [c927, c929]) (by simp [c927, c929]) (by simp [c927, c929]) (by simp [c927, c929]) (by simp [c927, c929]) (by simp [c927, c929]) (by simp [c927, c929]) (by simp [c927, c929]) (by simp [c927, c929]) ?_
      obtain ⟨v431, h931, hx⟩ := bind_elim hx
      simp only [go_sem, seval, c927, c929]
      refine VCl.sub [(0, some (.box [.d (.sl (List.map iD v1)), .d (.int .i64 v430.2)]))] [] rfl (by simp only [go_sem, seval, AV.viewXs, AV.viewX, avD, c927, c929]; try simp) (mk_Tape_Range_ok v1 v430.2 4 30 _ h931) (by simp [c927, c929]) (by simp [c927, c929]) (by simp [c927, c929]) (by simp [c927, c929]) (by simp [c927, c929]) (by simp [c927, c929]) (by simp [c927, c929]) (by simp [c927, c929]) (by simp [c927, c929]) (by simp [c927, c929]) ?_
      obtain ⟨k932, hx⟩ := chk_elim hx
      simp only [go_sem, seval, c927, c929, k932]
      repeat refine And.intro (by first | omega | (simp; done) | (simp; omega)) ?_
      refine hK _ _ (by kernel_rfl) (by simp [c927, c929, k932]) ?_
      clear hK K
      refine Walk.weaken ⟨[(0, .box 0 0), (1, .d (.int .i64 v3)), (4, .box 5 0), (6, .box 7 0), (7, .d (.int .i64 v423))], [(0, some (.box [.d (.sl (List.map iD v1)), .d (.int .i64 v431.2)])), (5, some (.box [.d (.int .i64 0), .d (.int .i64 0), .d (.int .i64 0), .d (.int .i64 0), .nils, .nils, .nils, .nils, .d (.int .i64 0)])), (7, some (.box [.d (.int .i64 v391.1), .d (.int .i64 (IntKind.i64.wrap (v391.1 + v392.1))), .d (.int .i64 v393.1), .d (.int .i64 v394.1), .arr 1042 0 (((v425 ++ [(TRange.mk v423 v430.1 v431.1)])).length), .nils, .nils, .nils, .d (.int .i64 v395.1)])), (1042, some (.arr 80 3 (List.map TRange.D ((v425 ++ [(TRange.mk v423 v430.1 v431.1)])))))]⟩ (by simp [c927, c929, k932] <;> omega) (by simp [c927, c929, k932] <;> omega) ?_
      refine Walk.inBlock (Walk.region' rfl fun K hK => ?_)
      simp only [go_sem, seval, c927, c929, k932]
      refine hK _ ?_
      clear hK K
      exact Walk.weaken _ (by simp [c927, c929, k932] <;> omega) (by simp [c927, c929, k932] <;> omega) (ih923 _ (cont_elim hx))
    refine Walk.skip (Walk.inBlock (Walk.region' rfl fun K hK => ?_))
    simp only [go_sem, seval, c927, c929]
    refine hK _ ?_
    clear hK K
    exact Walk.weaken _ (by simp [c927, c929] <;> omega) (by simp [c927, c929] <;> omega) (ih923 _ (cont_elim hx))
  refine Walk.exit rfl ?_
  obtain ⟨z933, e934, hx⟩ := exit_elim hx
  rw [hr924 z933 e934] at hx
  refine Walk.seq (Walk.seq (Walk.region' rfl fun K hK => ?_))
  simp only [go_sem, seval, c927]
  refine hK _ ?_
  clear hK K
  refine Walk.block (Walk.loop ?_)
  refine Walk.weaken ⟨[(0, .box 0 0), (1, .d (.int .i64 v3)), (4, .box 5 0), (6, .box 7 0), (8, .d (.int .i64 0))], [(0, some (.box [.d (.sl (List.map iD v1)), .d (.int .i64 v424)])), (5, some (.box [.d (.int .i64 0), .d (.int .i64 0), .d (.int .i64 0), .d (.int .i64 0), .nils, .nils, .nils, .nils, .d (.int .i64 0)])), (7, some (.box [.d (.int .i64 v391.1), .d (.int .i64 (IntKind.i64.wrap (v391.1 + v392.1))), .d (.int .i64 v393.1), .d (.int .i64 v394.1), .arr 1042 0 v425.length, .nils, .nils, .nils, .d (.int .i64 v395.1)])), (1042, some (.arr 80 3 (List.map TRange.D v425)))]⟩ (by simp [c927] <;> omega) (by simp [c927] <;> omega) ?_
  refine Walk.up 1045 80 3 [(0, .box 0 0), (1, .d (.int .i64 v3)), (4, .box 5 0), (6, .box 7 0), (8, .d (.int .i64 0))] [(0, some (.box [.d (.sl (List.map iD v1)), .d (.int .i64 v424)])), (5, some (.box [.d (.int .i64 0), .d (.int .i64 0), .d (.int .i64 0), .d (.int .i64 0), .nils, .nils, .nils, .nils, .d (.int .i64 0)])), (7, some (.box [.d (.int .i64 v391.1), .d (.int .i64 (IntKind.i64.wrap (v391.1 + v392.1))), .d (.int .i64 v393.1), .d (.int .i64 v394.1), .arr 1042 0 v425.length, .arr 1045 0 0, .nils, .nils, .d (.int .i64 v395.1)])), (1042, some (.arr 80 3 (List.map TRange.D v425)))] (by simp) (by simp) (by omega) (by simp) (by simp) (by simp) ?_
  refine Walk.weaken ⟨[(0, .box 0 0), (1, .d (.int .i64 v3)), (4, .box 5 0), (6, .box 7 0), (8, .d (.int .i64 0))], [(0, some (.box [.d (.sl (List.map iD v1)), .d (.int .i64 v424)])), (5, some (.box [.d (.int .i64 0), .d (.int .i64 0), .d (.int .i64 0), .d (.int .i64 0), .nils, .nils, .nils, .nils, .d (.int .i64 0)])), (7, some (.box [.d (.int .i64 v391.1), .d (.int .i64 (IntKind.i64.wrap (v391.1 + v392.1))), .d (.int .i64 v393.1), .d (.int .i64 v394.1), .arr 1042 0 v425.length, .arr 1045 0 0, .nils, .nils, .d (.int .i64 v395.1)])), (1042, some (.arr 80 3 (List.map TRange.D v425))), (1045, some (.arr 80 3 (List.map TRange.D [])))]⟩ (by simp [c927] <;> omega) (by simp [c927] <;> omega) ?_
  refine Walk.iter (σ := Int × Int × List TRange) (fun g => ⟨[(0, .box 0 0), (1, .d (.int .i64 v3)), (4, .box 5 0), (6, .box 7 0), (8, .d (.int .i64 g.1))], [(0, some (.box [.d (.sl (List.map iD v1)), .d (.int .i64 g.2.1)])), (5, some (.box [.d (.int .i64 0), .d (.int .i64 0), .d (.int .i64 0), .d (.int .i64 0), .nils, .nils, .nils, .nils, .d (.int .i64 0)])), (7, some (.box [.d (.int .i64 v391.1), .d (.int .i64 (IntKind.i64.wrap (v391.1 + v392.1))), .d (.int .i64 v393.1), .d (.int .i64 v394.1), .arr 1042 0 v425.length, .arr 1045 0 g.2.2.length, .nils, .nils, .d (.int .i64 v395.1)])), (1042, some (.arr 80 3 (List.map TRange.D v425))), (1045, some (.arr 80 3 (List.map TRange.D g.2.2)))]⟩) (fun g : Int × Int × List TRange => mk_Tape_Blueprint_l1 v1 v3 v394 v395 v425 v391 v392 v393 g.1 g.2.1 g.2.2) _ (fun g y1718 hx ih995 hr996 => ?_) (0, v424, []) hx
  obtain ⟨v459, v460, v461⟩ := g
  unfold mk_Tape_Blueprint_l1 at hx
  try dsimp only at hx ⊢
  refine Walk.seq (Walk.seq (Walk.region' rfl fun K hK => ?_))
  simp only [go_sem, seval, c927]
  refine hK _ ?_
  clear hK K
  refine Walk.condO rfl hx (fun c999 hx => ?_) (fun c999 hx => ?_)
  · refine Walk.skip (Walk.seq (Walk.block (Walk.seq (Walk.region' rfl fun K hK => ?_))))
    obtain ⟨v465, h1000, hx⟩ := bind_elim hx
    simp only [go_sem, seval, c927, c999]
    refine VCl.sub [(0, some (.box [.d (.sl (List.map iD v1)), .d (.int .i64 v460)]))] [] rfl (by simp only [go_sem, seval, AV.viewXs, AV.viewX, avD, c927, c999]; try simp) (mk_Tape_One_ok v1 v460 4 _ h1000) (by simp [c927, c999]) (by simp [c927, c999]) (by simp [c927, c999]) (by simp [c927, c999]) (by simp [c927, c999]) (by simp [c927, c999]) (by simp [c927, c999]) (by simp [c927, c999]) (by simp [c927, c999]) (by simp [c927, c999]) ?_
    simp only [go_sem, seval, c927, c999]
    refine hK _ ?_
    clear hK K
    refine Walk.weaken ⟨[(0, .box 0 0), (1, .d (.int .i64 v3)), (4, .box 5 0), (6, .box 7 0), (8, .d (.int .i64 v459)), (49, .d (.bool v465.1))], [(0, some (.box [.d (.sl (List.map iD v1)), .d (.int .i64 v465.2)])), (5, some (.box [.d (.int .i64 0), .d (.int .i64 0), .d (.int .i64 0), .d (.int .i64 0), .nils, .nils, .nils, .nils, .d (.int .i64 0)])), (7, some (.box [.d (.int .i64 v391.1), .d (.int .i64 (IntKind.i64.wrap (v391.1 + v392.1))), .d (.int .i64 v393.1), .d (.int .i64 v394.1), .arr 1042 0 v425.length, .arr 1045 0 v461.length, .nils, .nils, .d (.int .i64 v395.1)])), (1042, some (.arr 80 3 (List.map TRange.D v425))), (1045, some (.arr 80 3 (List.map TRange.D v461)))]⟩ (by simp [c927, c999] <;> omega) (by simp [c927, c999] <;> omega) ?_
    refine Walk.condO rfl hx (fun c1001 hx => ?_) (fun c1001 hx => ?_)
    · refine Walk.drawn' rfl mixed fun K hK => ?_
      obtain ⟨v466, h1002, hx⟩ := bind_elim hx
      simp only [go_sem, seval, c927, c999, c1001]
      refine VCl.sub [(0, some (.box [.d (.sl (List.map iD v1)), .d (.int .i64 v465.2)]))] [] rfl (by simp only [go_sem, seval, AV.viewXs, AV.viewX, avD, c927, c999, c1001]; try simp) (mk_Tape_Next_ok v1 v465.2 4 _ h1002) (by simp [c927, c999, c1001]) (by simp [c927, c999, c1001]) (by simp [c927, c999, c1001]) (by simp [c927, c999, c1001]) (by simp [c927, c999, c1001]) (by simp [c927, c999, c1001]) (by simp [c927, c999, c1001]) (by simp [c927, c999, c1001]) (by simp [c927, c999, c1001]) (by simp [c927, c999, c1001]) ?_
      obtain ⟨v467, h1003, hx⟩ := bind_elim hx
      simp only [go_sem, seval, c927, c999, c1001]
      refine VCl.sub [(0, some (.box [.d (.sl (List.map iD v1)), .d (.int .i64 v466.2)]))] [] rfl (by simp only [go_sem, seval, AV.viewXs, AV.viewX, avD, c927, c999, c1001]; try simp) (mk_Tape_Range_ok v1 v466.2 4 30 _ h1003) (by simp [c927, c999, c1001]) (by simp [c927, c999, c1001]) (by simp [c927, c999, c1001]) (by simp [c927, c999, c1001]) (by simp [c927, c999, c1001]) (by simp [c927, c999, c1001]) (by simp [c927, c999, c1001]) (by simp [c927, c999, c1001]) (by simp [c927, c999, c1001]) (by simp [c927, c999, c1001]) ?_
      obtain ⟨k1004, hx⟩ := chk_elim hx
      simp only [go_sem, seval, c927, c999, c1001, k1004]
      repeat refine And.intro (by first | omega | (simp; done) | (simp; omega)) ?_
      refine hK _ _ (by kernel_rfl) (by simp [c927, c999, c1001, k1004]) ?_
      clear hK K
      refine Walk.weaken ⟨[(0, .box 0 0), (1, .d (.int .i64 v3)), (4, .box 5 0), (6, .box 7 0), (8, .d (.int .i64 v459))], [(0, some (.box [.d (.sl (List.map iD v1)), .d (.int .i64 v467.2)])), (5, some (.box [.d (.int .i64 0), .d (.int .i64 0), .d (.int .i64 0), .d (.int .i64 0), .nils, .nils, .nils, .nils, .d (.int .i64 0)])), (7, some (.box [.d (.int .i64 v391.1), .d (.int .i64 (IntKind.i64.wrap (v391.1 + v392.1))), .d (.int .i64 v393.1), .d (.int .i64 v394.1), .arr 1042 0 v425.length, .arr 1045 0 (((v461 ++ [(TRange.mk v459 v466.1 v467.1)])).length), .nils, .nils, .d (.int .i64 v395.1)])), (1042, some (.arr 80 3 (List.map TRange.D v425))), (1045, some (.arr 80 3 (List.map TRange.D ((v461 ++ [(TRange.mk v459 v466.1 v467.1)])))))]⟩ (by simp [c927, c999, c1001, k1004] <;> omega) (by simp [c927, c999, c1001, k1004] <;> omega) ?_
      refine Walk.inBlock (Walk.region' rfl fun K hK => ?_)
      simp only [go_sem, seval, c927, c999, c1001, k1004]
      refine hK _ ?_
      clear hK K
      exact Walk.weaken _ (by simp [c927, c999, c1001, k1004] <;> omega) (by simp [c927, c999, c1001, k1004] <;> omega) (ih995 _ (cont_elim hx))
    refine Walk.skip (Walk.inBlock (Walk.region' rfl fun K hK => ?_))
    simp only [go_sem, seval, c927, c999, c1001]
    refine hK _ ?_
    clear hK K
    exact Walk.weaken _ (by simp [c927, c999, c1001] <;> omega) (by simp [c927, c999, c1001] <;> omega) (ih995 _ (cont_elim hx))
  refine Walk.exit rfl ?_
  obtain ⟨z1005, e1006, hx⟩ := exit_elim hx
  rw [hr996 z1005 e1006] at hx
  refine Walk.seq (Walk.seq (Walk.region' rfl fun K hK => ?_))
  simp only [go_sem, seval, c927, c999]
  refine hK _ ?_
  clear hK K
  refine Walk.block (Walk.loop ?_)
  refine Walk.weaken ⟨[(0, .box 0 0), (1, .d (.int .i64 v3)), (4, .box 5 0), (6, .box 7 0), (9, .d (.int .i64 0))], [(0, some (.box [.d (.sl (List.map iD v1)), .d (.int .i64 v460)])), (5, some (.box [.d (.int .i64 0), .d (.int .i64 0), .d (.int .i64 0), .d (.int .i64 0), .nils, .nils, .nils, .nils, .d (.int .i64 0)])), (7, some (.box [.d (.int .i64 v391.1), .d (.int .i64 (IntKind.i64.wrap (v391.1 + v392.1))), .d (.int .i64 v393.1), .d (.int .i64 v394.1), .arr 1042 0 v425.length, .arr 1045 0 v461.length, .nils, .nils, .d (.int .i64 v395.1)])), (1042, some (.arr 80 3 (List.map TRange.D v425))), (1045, some (.arr 80 3 (List.map TRange.D v461)))]⟩ (by simp [c927, c999] <;> omega) (by simp [c927, c999] <;> omega) ?_
  refine Walk.up 1048 3 1 [(0, .box 0 0), (1, .d (.int .i64 v3)), (4, .box 5 0), (6, .box 7 0), (9, .d (.int .i64 0))] [(0, some (.box [.d (.sl (List.map iD v1)), .d (.int .i64 v460)])), (5, some (.box [.d (.int .i64 0), .d (.int .i64 0), .d (.int .i64 0), .d (.int .i64 0), .nils, .nils, .nils, .nils, .d (.int .i64 0)])), (7, some (.box [.d (.int .i64 v391.1), .d (.int .i64 (IntKind.i64.wrap (v391.1 + v392.1))), .d (.int .i64 v393.1), .d (.int .i64 v394.1), .arr 1042 0 v425.length, .arr 1045 0 v461.length, .arr 1048 0 0, .nils, .d (.int .i64 v395.1)])), (1042, some (.arr 80 3 (List.map TRange.D v425))), (1045, some (.arr 80 3 (List.map TRange.D v461)))] (by simp) (by simp) (by omega) (by simp) (by simp) (by simp) ?_
  refine Walk.weaken ⟨[(0, .box 0 0), (1, .d (.int .i64 v3)), (4, .box 5 0), (6, .box 7 0), (9, .d (.int .i64 0))], [(0, some (.box [.d (.sl (List.map iD v1)), .d (.int .i64 v460)])), (5, some (.box [.d (.int .i64 0), .d (.int .i64 0), .d (.int .i64 0), .d (.int .i64 0), .nils, .nils, .nils, .nils, .d (.int .i64 0)])), (7, some (.box [.d (.int .i64 v391.1), .d (.int .i64 (IntKind.i64.wrap (v391.1 + v392.1))), .d (.int .i64 v393.1), .d (.int .i64 v394.1), .arr 1042 0 v425.length, .arr 1045 0 v461.length, .arr 1048 0 0, .nils, .d (.int .i64 v395.1)])), (1042, some (.arr 80 3 (List.map TRange.D v425))), (1045, some (.arr 80 3 (List.map TRange.D v461))), (1048, some (.arr 3 1 (List.map iD [])))]⟩ (by simp [c927, c999] <;> omega) (by simp [c927, c999] <;> omega) ?_
  refine Walk.iter (σ := Int × Int × List Int) (fun g => ⟨[(0, .box 0 0), (1, .d (.int .i64 v3)), (4, .box 5 0), (6, .box 7 0), (9, .d (.int .i64 g.1))], [(0, some (.box [.d (.sl (List.map iD v1)), .d (.int .i64 g.2.1)])), (5, some (.box [.d (.int .i64 0), .d (.int .i64 0), .d (.int .i64 0), .d (.int .i64 0), .nils, .nils, .nils, .nils, .d (.int .i64 0)])), (7, some (.box [.d (.int .i64 v391.1), .d (.int .i64 (IntKind.i64.wrap (v391.1 + v392.1))), .d (.int .i64 v393.1), .d (.int .i64 v394.1), .arr 1042 0 v425.length, .arr 1045 0 v461.length, .arr 1048 0 g.2.2.length, .nils, .d (.int .i64 v395.1)])), (1042, some (.arr 80 3 (List.map TRange.D v425))), (1045, some (.arr 80 3 (List.map TRange.D v461))), (1048, some (.arr 3 1 (List.map iD g.2.2)))]⟩) (fun g : Int × Int × List Int => mk_Tape_Blueprint_l2 v1 v3 v394 v395 v461 v425 v391 v392 v393 g.1 g.2.1 g.2.2) _ (fun g y1717 hx ih1051 hr1052 => ?_) (0, v460, []) hx
  obtain ⟨v481, v482, v483⟩ := g
  unfold mk_Tape_Blueprint_l2 at hx
  try dsimp only at hx ⊢
  refine Walk.seq (Walk.seq (Walk.region' rfl fun K hK => ?_))
  simp only [go_sem, seval, c927, c999]
  refine hK _ ?_
  clear hK K
  refine Walk.condO rfl hx (fun c1055 hx => ?_) (fun c1055 hx => ?_)
  · refine Walk.skip (Walk.seq (Walk.block (Walk.seq (Walk.region' rfl fun K hK => ?_))))
    obtain ⟨v485, h1056, hx⟩ := bind_elim hx
    simp only [go_sem, seval, c927, c999, c1055]
    refine VCl.sub [(0, some (.box [.d (.sl (List.map iD v1)), .d (.int .i64 v482)]))] [] rfl (by simp only [go_sem, seval, AV.viewXs, AV.viewX, avD, c927, c999, c1055]; try simp) (mk_Tape_One_ok v1 v482 5 _ h1056) (by simp [c927, c999, c1055]) (by simp [c927, c999, c1055]) (by simp [c927, c999, c1055]) (by simp [c927, c999, c1055]) (by simp [c927, c999, c1055]) (by simp [c927, c999, c1055]) (by simp [c927, c999, c1055]) (by simp [c927, c999, c1055]) (by simp [c927, c999, c1055]) (by simp [c927, c999, c1055]) ?_
    simp only [go_sem, seval, c927, c999, c1055]
    refine hK _ ?_
    clear hK K
    refine Walk.weaken ⟨[(0, .box 0 0), (1, .d (.int .i64 v3)), (4, .box 5 0), (6, .box 7 0), (9, .d (.int .i64 v481)), (66, .d (.bool v485.1))], [(0, some (.box [.d (.sl (List.map iD v1)), .d (.int .i64 v485.2)])), (5, some (.box [.d (.int .i64 0), .d (.int .i64 0), .d (.int .i64 0), .d (.int .i64 0), .nils, .nils, .nils, .nils, .d (.int .i64 0)])), (7, some (.box [.d (.int .i64 v391.1), .d (.int .i64 (IntKind.i64.wrap (v391.1 + v392.1))), .d (.int .i64 v393.1), .d (.int .i64 v394.1), .arr 1042 0 v425.length, .arr 1045 0 v461.length, .arr 1048 0 v483.length, .nils, .d (.int .i64 v395.1)])), (1042, some (.arr 80 3 (List.map TRange.D v425))), (1045, some (.arr 80 3 (List.map TRange.D v461))), (1048, some (.arr 3 1 (List.map iD v483)))]⟩ (by simp [c927, c999, c1055] <;> omega) (by simp [c927, c999, c1055] <;> omega) ?_
    refine Walk.condO rfl hx (fun c1057 hx => ?_) (fun c1057 hx => ?_)
    · refine Walk.region' rfl fun K hK => ?_
      obtain ⟨k1058, hx⟩ := chk_elim hx
      simp only [go_sem, seval, c927, c999, c1055, c1057, k1058]
      repeat refine And.intro (by first | omega | (simp; done) | (simp; omega)) ?_
      refine hK _ ?_
      clear hK K
      refine Walk.weaken ⟨[(0, .box 0 0), (1, .d (.int .i64 v3)), (4, .box 5 0), (6, .box 7 0), (9, .d (.int .i64 v481))], [(0, some (.box [.d (.sl (List.map iD v1)), .d (.int .i64 v485.2)])), (5, some (.box [.d (.int .i64 0), .d (.int .i64 0), .d (.int .i64 0), .d (.int .i64 0), .nils, .nils, .nils, .nils, .d (.int .i64 0)])), (7, some (.box [.d (.int .i64 v391.1), .d (.int .i64 (IntKind.i64.wrap (v391.1 + v392.1))), .d (.int .i64 v393.1), .d (.int .i64 v394.1), .arr 1042 0 v425.length, .arr 1045 0 v461.length, .arr 1048 0 ((v483 ++ [v481]).length), .nils, .d (.int .i64 v395.1)])), (1042, some (.arr 80 3 (List.map TRange.D v425))), (1045, some (.arr 80 3 (List.map TRange.D v461))), (1048, some (.arr 3 1 (List.map iD (v483 ++ [v481]))))]⟩ (by simp [c927, c999, c1055, c1057, k1058] <;> omega) (by simp [c927, c999, c1055, c1057, k1058] <;> omega) ?_
      refine Walk.inBlock (Walk.region' rfl fun K hK => ?_)
      simp only [go_sem, seval, c927, c999, c1055, c1057, k1058]
      refine hK _ ?_
      clear hK K
      exact Walk.weaken _ (by simp [c927, c999, c1055, c1057, k1058] <;> omega) (by simp [c927, c999, c1055, c1057, k1058] <;> omega) (ih1051 _ (cont_elim hx))
    refine Walk.skip (Walk.inBlock (Walk.region' rfl fun K hK => ?_))
    simp only [go_sem, seval, c927, c999, c1055, c1057]
    refine hK _ ?_
    clear hK K
    exact Walk.weaken _ (by simp [c927, c999, c1055, c1057] <;> omega) (by simp [c927, c999, c1055, c1057] <;> omega) (ih1051 _ (cont_elim hx))
  refine Walk.exit rfl ?_
  obtain ⟨z1059, e1060, hx⟩ := exit_elim hx
  rw [hr1052 z1059 e1060] at hx
  refine Walk.seq (Walk.seq (Walk.region' rfl fun K hK => ?_))
  obtain ⟨v577, h1272, hx⟩ := bind_elim hx
  simp only [go_sem, seval, c927, c999, c1055]
  refine VCl.sub [(0, some (.box [.d (.sl (List.map iD v1)), .d (.int .i64 v482)]))] [] rfl (by simp only [go_sem, seval, AV.viewXs, AV.viewX, avD, c927, c999, c1055]; try simp) (mk_Tape_Next_ok v1 v482 3 _ h1272) (by simp [c927, c999, c1055]) (by simp [c927, c999, c1055]) (by simp [c927, c999, c1055]) (by simp [c927, c999, c1055]) (by simp [c927, c999, c1055]) (by simp [c927, c999, c1055]) (by simp [c927, c999, c1055]) (by simp [c927, c999, c1055]) (by simp [c927, c999, c1055]) (by simp [c927, c999, c1055]) ?_
  simp only [go_sem, seval, c927, c999, c1055]
  refine hK _ ?_
  clear hK K
  refine Walk.weaken ⟨[(0, .box 0 0), (1, .d (.int .i64 v3)), (4, .box 5 0), (6, .box 7 0), (10, .d (.int .i64 v577.1))], [(0, some (.box [.d (.sl (List.map iD v1)), .d (.int .i64 v577.2)])), (5, some (.box [.d (.int .i64 0), .d (.int .i64 0), .d (.int .i64 0), .d (.int .i64 0), .nils, .nils, .nils, .nils, .d (.int .i64 0)])), (7, some (.box [.d (.int .i64 v391.1), .d (.int .i64 (IntKind.i64.wrap (v391.1 + v392.1))), .d (.int .i64 v393.1), .d (.int .i64 v394.1), .arr 1042 0 v425.length, .arr 1045 0 v461.length, .arr 1048 0 v483.length, .nils, .d (.int .i64 v395.1)])), (1042, some (.arr 80 3 (List.map TRange.D v425))), (1045, some (.arr 80 3 (List.map TRange.D v461))), (1048, some (.arr 3 1 (List.map iD v483)))]⟩ (by simp [c927, c999, c1055] <;> omega) (by simp [c927, c999, c1055] <;> omega) ?_
  refine Walk.block (Walk.loop ?_)
  refine Walk.weaken ⟨[(0, .box 0 0), (1, .d (.int .i64 v3)), (4, .box 5 0), (6, .box 7 0), (10, .d (.int .i64 v577.1))], [(0, some (.box [.d (.sl (List.map iD v1)), .d (.int .i64 v577.2)])), (5, some (.box [.d (.int .i64 0), .d (.int .i64 0), .d (.int .i64 0), .d (.int .i64 0), .nils, .nils, .nils, .nils, .d (.int .i64 0)])), (7, some (.box [.d (.int .i64 v391.1), .d (.int .i64 (IntKind.i64.wrap (v391.1 + v392.1))), .d (.int .i64 v393.1), .d (.int .i64 v394.1), .arr 1042 0 v425.length, .arr 1045 0 v461.length, .arr 1048 0 v483.length, .nils, .d (.int .i64 v395.1)])), (1042, some (.arr 80 3 (List.map TRange.D v425))), (1045, some (.arr 80 3 (List.map TRange.D v461))), (1048, some (.arr 3 1 (List.map iD v483)))]⟩ (by simp [c927, c999, c1055] <;> omega) (by simp [c927, c999, c1055] <;> omega) ?_
  refine Walk.up 1072 83 2 [(0, .box 0 0), (1, .d (.int .i64 v3)), (4, .box 5 0), (6, .box 7 0), (10, .d (.int .i64 v577.1))] [(0, some (.box [.d (.sl (List.map iD v1)), .d (.int .i64 v577.2)])), (5, some (.box [.d (.int .i64 0), .d (.int .i64 0), .d (.int .i64 0), .d (.int .i64 0), .nils, .nils, .nils, .nils, .d (.int .i64 0)])), (7, some (.box [.d (.int .i64 v391.1), .d (.int .i64 (IntKind.i64.wrap (v391.1 + v392.1))), .d (.int .i64 v393.1), .d (.int .i64 v394.1), .arr 1042 0 v425.length, .arr 1045 0 v461.length, .arr 1048 0 v483.length, .arr 1072 0 0, .d (.int .i64 v395.1)])), (1042, some (.arr 80 3 (List.map TRange.D v425))), (1045, some (.arr 80 3 (List.map TRange.D v461))), (1048, some (.arr 3 1 (List.map iD v483)))] (by simp) (by simp) (by omega) (by simp) (by simp) (by simp) ?_
  refine Walk.weaken ⟨[(0, .box 0 0), (1, .d (.int .i64 v3)), (4, .box 5 0), (6, .box 7 0), (10, .d (.int .i64 v577.1))], [(0, some (.box [.d (.sl (List.map iD v1)), .d (.int .i64 v577.2)])), (5, some (.box [.d (.int .i64 0), .d (.int .i64 0), .d (.int .i64 0), .d (.int .i64 0), .nils, .nils, .nils, .nils, .d (.int .i64 0)])), (7, some (.box [.d (.int .i64 v391.1), .d (.int .i64 (IntKind.i64.wrap (v391.1 + v392.1))), .d (.int .i64 v393.1), .d (.int .i64 v394.1), .arr 1042 0 v425.length, .arr 1045 0 v461.length, .arr 1048 0 v483.length, .arr 1072 0 0, .d (.int .i64 v395.1)])), (1042, some (.arr 80 3 (List.map TRange.D v425))), (1045, some (.arr 80 3 (List.map TRange.D v461))), (1048, some (.arr 3 1 (List.map iD v483))), (1072, some (.arr 83 2 (List.map Form.D [])))]⟩ (by simp [c927, c999, c1055] <;> omega) (by simp [c927, c999, c1055] <;> omega) ?_
  refine Walk.iter (σ := Int × Int × List Form) (fun g => ⟨[(0, .box 0 0), (1, .d (.int .i64 v3)), (4, .box 5 0), (6, .box 7 0), (10, .d (.int .i64 g.1))], [(0, some (.box [.d (.sl (List.map iD v1)), .d (.int .i64 g.2.1)])), (5, some (.box [.d (.int .i64 0), .d (.int .i64 0), .d (.int .i64 0), .d (.int .i64 0), .nils, .nils, .nils, .nils, .d (.int .i64 0)])), (7, some (.box [.d (.int .i64 v391.1), .d (.int .i64 (IntKind.i64.wrap (v391.1 + v392.1))), .d (.int .i64 v393.1), .d (.int .i64 v394.1), .arr 1042 0 v425.length, .arr 1045 0 v461.length, .arr 1048 0 v483.length, .arr 1072 0 g.2.2.length, .d (.int .i64 v395.1)])), (1042, some (.arr 80 3 (List.map TRange.D v425))), (1045, some (.arr 80 3 (List.map TRange.D v461))), (1048, some (.arr 3 1 (List.map iD v483))), (1072, some (.arr 83 2 (List.map Form.D g.2.2)))]⟩) (fun g : Int × Int × List Form => mk_Tape_Blueprint_l3 v1 v3 v394 v395 v483 v461 v425 v391 v392 v393 g.1 g.2.1 g.2.2) _ (fun g y1716 hx ih1620 hr1621 => ?_) (v577.1, v577.2, []) hx
  obtain ⟨v697, v698, v699⟩ := g
  unfold mk_Tape_Blueprint_l3 at hx
  try dsimp only at hx ⊢
  refine Walk.seq (Walk.seq (Walk.region' rfl fun K hK => ?_))
  simp only [go_sem, seval, c927, c999, c1055]
  refine hK _ ?_
  clear hK K
  refine Walk.condO rfl hx (fun c1624 hx => ?_) (fun c1624 hx => ?_)
  · refine Walk.skip (Walk.seq (Walk.block (Walk.seq (Walk.region' rfl fun K hK => ?_))))
    simp only [go_sem, seval, c927, c999, c1055, c1624]
    refine hK _ ?_
    clear hK K
    refine Walk.seq (Walk.seq (Walk.region' rfl fun K hK => ?_))
    obtain ⟨v739, h1647, hx⟩ := bind_elim hx
    simp only [go_sem, seval, c927, c999, c1055, c1624]
    refine VCl.sub [(0, some (.box [.d (.sl (List.map iD v1)), .d (.int .i64 v698)]))] [] rfl (by simp only [go_sem, seval, AV.viewXs, AV.viewX, avD, c927, c999, c1055, c1624]; try simp) (mk_Tape_Next_ok v1 v698 4 _ h1647) (by simp [c927, c999, c1055, c1624]) (by simp [c927, c999, c1055, c1624]) (by simp [c927, c999, c1055, c1624]) (by simp [c927, c999, c1055, c1624]) (by simp [c927, c999, c1055, c1624]) (by simp [c927, c999, c1055, c1624]) (by simp [c927, c999, c1055, c1624]) (by simp [c927, c999, c1055, c1624]) (by simp [c927, c999, c1055, c1624]) (by simp [c927, c999, c1055, c1624]) ?_
    simp only [go_sem, seval, c927, c999, c1055, c1624]
    refine hK _ ?_
    clear hK K
    refine Walk.weaken ⟨[(0, .box 0 0), (1, .d (.int .i64 v3)), (4, .box 5 0), (6, .box 7 0), (10, .d (.int .i64 v697)), (11, .box 12 0), (12, .d (.int .i64 v739.1))], [(0, some (.box [.d (.sl (List.map iD v1)), .d (.int .i64 v739.2)])), (5, some (.box [.d (.int .i64 0), .d (.int .i64 0), .d (.int .i64 0), .d (.int .i64 0), .nils, .nils, .nils, .nils, .d (.int .i64 0)])), (7, some (.box [.d (.int .i64 v391.1), .d (.int .i64 (IntKind.i64.wrap (v391.1 + v392.1))), .d (.int .i64 v393.1), .d (.int .i64 v394.1), .arr 1042 0 v425.length, .arr 1045 0 v461.length, .arr 1048 0 v483.length, .arr 1072 0 v699.length, .d (.int .i64 v395.1)])), (12, some (.box [.d (.int .i64 0), .nils])), (1042, some (.arr 80 3 (List.map TRange.D v425))), (1045, some (.arr 80 3 (List.map TRange.D v461))), (1048, some (.arr 3 1 (List.map iD v483))), (1072, some (.arr 83 2 (List.map Form.D v699)))]⟩ (by simp [c927, c999, c1055, c1624] <;> omega) (by simp [c927, c999, c1055, c1624] <;> omega) ?_
    refine Walk.block (Walk.loop ?_)
    refine Walk.weaken ⟨[(0, .box 0 0), (1, .d (.int .i64 v3)), (4, .box 5 0), (6, .box 7 0), (10, .d (.int .i64 v697)), (11, .box 12 0), (12, .d (.int .i64 v739.1))], [(0, some (.box [.d (.sl (List.map iD v1)), .d (.int .i64 v739.2)])), (5, some (.box [.d (.int .i64 0), .d (.int .i64 0), .d (.int .i64 0), .d (.int .i64 0), .nils, .nils, .nils, .nils, .d (.int .i64 0)])), (7, some (.box [.d (.int .i64 v391.1), .d (.int .i64 (IntKind.i64.wrap (v391.1 + v392.1))), .d (.int .i64 v393.1), .d (.int .i64 v394.1), .arr 1042 0 v425.length, .arr 1045 0 v461.length, .arr 1048 0 v483.length, .arr 1072 0 v699.length, .d (.int .i64 v395.1)])), (12, some (.box [.d (.int .i64 0), .nils])), (1042, some (.arr 80 3 (List.map TRange.D v425))), (1045, some (.arr 80 3 (List.map TRange.D v461))), (1048, some (.arr 3 1 (List.map iD v483))), (1072, some (.arr 83 2 (List.map Form.D v699)))]⟩ (by simp [c927, c999, c1055, c1624] <;> omega) (by simp [c927, c999, c1055, c1624] <;> omega) ?_
    refine Walk.up 1078 85 2 [(0, .box 0 0), (1, .d (.int .i64 v3)), (4, .box 5 0), (6, .box 7 0), (10, .d (.int .i64 v697)), (11, .box 12 0), (12, .d (.int .i64 v739.1))] [(0, some (.box [.d (.sl (List.map iD v1)), .d (.int .i64 v739.2)])), (5, some (.box [.d (.int .i64 0), .d (.int .i64 0), .d (.int .i64 0), .d (.int .i64 0), .nils, .nils, .nils, .nils, .d (.int .i64 0)])), (7, some (.box [.d (.int .i64 v391.1), .d (.int .i64 (IntKind.i64.wrap (v391.1 + v392.1))), .d (.int .i64 v393.1), .d (.int .i64 v394.1), .arr 1042 0 v425.length, .arr 1045 0 v461.length, .arr 1048 0 v483.length, .arr 1072 0 v699.length, .d (.int .i64 v395.1)])), (12, some (.box [.d (.int .i64 0), .arr 1078 0 0])), (1042, some (.arr 80 3 (List.map TRange.D v425))), (1045, some (.arr 80 3 (List.map TRange.D v461))), (1048, some (.arr 3 1 (List.map iD v483))), (1072, some (.arr 83 2 (List.map Form.D v699)))] (by simp) (by simp) (by omega) (by simp) (by simp) (by simp) ?_
    refine Walk.weaken ⟨[(0, .box 0 0), (1, .d (.int .i64 v3)), (4, .box 5 0), (6, .box 7 0), (10, .d (.int .i64 v697)), (11, .box 12 0), (12, .d (.int .i64 v739.1))], [(0, some (.box [.d (.sl (List.map iD v1)), .d (.int .i64 v739.2)])), (5, some (.box [.d (.int .i64 0), .d (.int .i64 0), .d (.int .i64 0), .d (.int .i64 0), .nils, .nils, .nils, .nils, .d (.int .i64 0)])), (7, some (.box [.d (.int .i64 v391.1), .d (.int .i64 (IntKind.i64.wrap (v391.1 + v392.1))), .d (.int .i64 v393.1), .d (.int .i64 v394.1), .arr 1042 0 v425.length, .arr 1045 0 v461.length, .arr 1048 0 v483.length, .arr 1072 0 v699.length, .d (.int .i64 v395.1)])), (12, some (.box [.d (.int .i64 0), .arr 1078 0 0])), (1042, some (.arr 80 3 (List.map TRange.D v425))), (1045, some (.arr 80 3 (List.map TRange.D v461))), (1048, some (.arr 3 1 (List.map iD v483))), (1072, some (.arr 83 2 (List.map Form.D v699))), (1078, some (.arr 85 2 (List.map Ref.D [])))]⟩ (by simp [c927, c999, c1055, c1624] <;> omega) (by simp [c927, c999, c1055, c1624] <;> omega) ?_
    refine Walk.iter (σ := Int × Int × List Ref) (fun g => ⟨[(0, .box 0 0), (1, .d (.int .i64 v3)), (4, .box 5 0), (6, .box 7 0), (10, .d (.int .i64 v697)), (11, .box 12 0), (12, .d (.int .i64 g.1))], [(0, some (.box [.d (.sl (List.map iD v1)), .d (.int .i64 g.2.1)])), (5, some (.box [.d (.int .i64 0), .d (.int .i64 0), .d (.int .i64 0), .d (.int .i64 0), .nils, .nils, .nils, .nils, .d (.int .i64 0)])), (7, some (.box [.d (.int .i64 v391.1), .d (.int .i64 (IntKind.i64.wrap (v391.1 + v392.1))), .d (.int .i64 v393.1), .d (.int .i64 v394.1), .arr 1042 0 v425.length, .arr 1045 0 v461.length, .arr 1048 0 v483.length, .arr 1072 0 v699.length, .d (.int .i64 v395.1)])), (12, some (.box [.d (.int .i64 0), .arr 1078 0 g.2.2.length])), (1042, some (.arr 80 3 (List.map TRange.D v425))), (1045, some (.arr 80 3 (List.map TRange.D v461))), (1048, some (.arr 3 1 (List.map iD v483))), (1072, some (.arr 83 2 (List.map Form.D v699))), (1078, some (.arr 85 2 (List.map Ref.D g.2.2)))]⟩) (fun g : Int × Int × List Ref => mk_Tape_Blueprint_l4 v1 v699 v697 g.1 g.2.1 g.2.2) _ (fun g y1691 hx ih1680 hr1681 => ?_) (v739.1, v739.2, []) hx
    obtain ⟨v751, v752, v753⟩ := g
    unfold mk_Tape_Blueprint_l4 at hx
    try dsimp only at hx ⊢
    refine Walk.seq (Walk.seq (Walk.region' rfl fun K hK => ?_))
    simp only [go_sem, seval, c927, c999, c1055, c1624]
    refine hK _ ?_
    clear hK K
    refine Walk.condO rfl hx (fun c1684 hx => ?_) (fun c1684 hx => ?_)
    · refine Walk.skip (Walk.seq (Walk.block (Walk.drawn' rfl mixed fun K hK => ?_)))
      obtain ⟨v756, h1685, hx⟩ := bind_elim hx
      simp only [go_sem, seval, c927, c999, c1055, c1624, c1684]
      refine VCl.sub [(0, some (.box [.d (.sl (List.map iD v1)), .d (.int .i64 v752)]))] [] rfl (by simp only [go_sem, seval, AV.viewXs, AV.viewX, avD, c927, c999, c1055, c1624, c1684]; try simp) (mk_Tape_Next_ok v1 v752 4 _ h1685) (by simp [c927, c999, c1055, c1624, c1684]) (by simp [c927, c999, c1055, c1624, c1684]) (by simp [c927, c999, c1055, c1624, c1684]) (by simp [c927, c999, c1055, c1624, c1684]) (by simp [c927, c999, c1055, c1624, c1684]) (by simp [c927, c999, c1055, c1624, c1684]) (by simp [c927, c999, c1055, c1624, c1684]) (by simp [c927, c999, c1055, c1624, c1684]) (by simp [c927, c999, c1055, c1624, c1684]) (by simp [c927, c999, c1055, c1624, c1684]) ?_
      obtain ⟨v757, h1686, hx⟩ := bind_elim hx
      simp only [go_sem, seval, c927, c999, c1055, c1624, c1684]
      refine VCl.sub [(0, some (.box [.d (.sl (List.map iD v1)), .d (.int .i64 v756.2)]))] [] rfl (by simp only [go_sem, seval, AV.viewXs, AV.viewX, avD, c927, c999, c1055, c1624, c1684]; try simp) (mk_Tape_Range_ok v1 v756.2 1 2 _ h1686) (by simp [c927, c999, c1055, c1624, c1684]) (by simp [c927, c999, c1055, c1624, c1684]) (by simp [c927, c999, c1055, c1624, c1684]) (by simp [c927, c999, c1055, c1624, c1684]) (by simp [c927, c999, c1055, c1624, c1684]) (by simp [c927, c999, c1055, c1624, c1684]) (by simp [c927, c999, c1055, c1624, c1684]) (by simp [c927, c999, c1055, c1624, c1684]) (by simp [c927, c999, c1055, c1624, c1684]) (by simp [c927, c999, c1055, c1624, c1684]) ?_
      obtain ⟨k1687, hx⟩ := chk_elim hx
      simp only [go_sem, seval, c927, c999, c1055, c1624, c1684, k1687]
      repeat refine And.intro (by first | omega | (simp; done) | (simp; omega)) ?_
      refine hK _ _ (by kernel_rfl) (by simp [c927, c999, c1055, c1624, c1684, k1687]) ?_
      clear hK K
      refine Walk.weaken ⟨[(0, .box 0 0), (1, .d (.int .i64 v3)), (4, .box 5 0), (6, .box 7 0), (10, .d (.int .i64 v697)), (11, .box 12 0), (12, .d (.int .i64 v751))], [(0, some (.box [.d (.sl (List.map iD v1)), .d (.int .i64 v757.2)])), (5, some (.box [.d (.int .i64 0), .d (.int .i64 0), .d (.int .i64 0), .d (.int .i64 0), .nils, .nils, .nils, .nils, .d (.int .i64 0)])), (7, some (.box [.d (.int .i64 v391.1), .d (.int .i64 (IntKind.i64.wrap (v391.1 + v392.1))), .d (.int .i64 v393.1), .d (.int .i64 v394.1), .arr 1042 0 v425.length, .arr 1045 0 v461.length, .arr 1048 0 v483.length, .arr 1072 0 v699.length, .d (.int .i64 v395.1)])), (12, some (.box [.d (.int .i64 0), .arr 1078 0 (((v753 ++ [(Ref.mk v756.1 v757.1)])).length)])), (1042, some (.arr 80 3 (List.map TRange.D v425))), (1045, some (.arr 80 3 (List.map TRange.D v461))), (1048, some (.arr 3 1 (List.map iD v483))), (1072, some (.arr 83 2 (List.map Form.D v699))), (1078, some (.arr 85 2 (List.map Ref.D ((v753 ++ [(Ref.mk v756.1 v757.1)])))))]⟩ (by simp [c927, c999, c1055, c1624, c1684, k1687] <;> omega) (by simp [c927, c999, c1055, c1624, c1684, k1687] <;> omega) ?_
      refine Walk.inBlock (Walk.region' rfl fun K hK => ?_)
      simp only [go_sem, seval, c927, c999, c1055, c1624, c1684, k1687]
      refine hK _ ?_
      clear hK K
      exact Walk.weaken _ (by simp [c927, c999, c1055, c1624, c1684, k1687] <;> omega) (by simp [c927, c999, c1055, c1624, c1684, k1687] <;> omega) (ih1680 _ (cont_elim hx))
    refine Walk.exit rfl ?_
    obtain ⟨z1688, e1689, hx⟩ := exit_elim hx
    rw [hr1681 z1688 e1689] at hx
    refine Walk.region' rfl fun K hK => ?_
    obtain ⟨k1690, hx⟩ := chk_elim hx
    simp only [go_sem, seval, c927, c999, c1055, c1624, c1684, k1690]
    repeat refine And.intro (by first | omega | (simp; done) | (simp; omega)) ?_
    refine hK _ ?_
    clear hK K
    refine Walk.weaken ⟨[(0, .box 0 0), (1, .d (.int .i64 v3)), (4, .box 5 0), (6, .box 7 0), (10, .d (.int .i64 v697))], [(0, some (.box [.d (.sl (List.map iD v1)), .d (.int .i64 v752)])), (5, some (.box [.d (.int .i64 0), .d (.int .i64 0), .d (.int .i64 0), .d (.int .i64 0), .nils, .nils, .nils, .nils, .d (.int .i64 0)])), (7, some (.box [.d (.int .i64 v391.1), .d (.int .i64 (IntKind.i64.wrap (v391.1 + v392.1))), .d (.int .i64 v393.1), .d (.int .i64 v394.1), .arr 1042 0 v425.length, .arr 1045 0 v461.length, .arr 1048 0 v483.length, .arr 1072 0 (((v699 ++ [(Form.mk 0 v753)])).length), .d (.int .i64 v395.1)])), (1042, some (.arr 80 3 (List.map TRange.D v425))), (1045, some (.arr 80 3 (List.map TRange.D v461))), (1048, some (.arr 3 1 (List.map iD v483))), (1072, some (.arr 83 2 (List.map Form.D ((v699 ++ [(Form.mk 0 v753)])))))]⟩ (by simp [c927, c999, c1055, c1624, c1684, k1690] <;> omega) (by simp [c927, c999, c1055, c1624, c1684, k1690] <;> omega) ?_
    refine Walk.inBlock (Walk.region' rfl fun K hK => ?_)
    simp only [go_sem, seval, c927, c999, c1055, c1624, c1684, k1690]
    refine hK _ ?_
    clear hK K
    exact Walk.weaken _ (by simp [c927, c999, c1055, c1624, c1684, k1690] <;> omega) (by simp [c927, c999, c1055, c1624, c1684, k1690] <;> omega) (ih1620 _ (cont_elim hx))
  refine Walk.exit rfl ?_
  obtain ⟨z1692, e1693, hx⟩ := exit_elim hx
  rw [hr1621 z1692 e1693] at hx
  refine Walk.seq (Walk.seq (Walk.region' rfl fun K hK => ?_))
  simp only [go_sem, seval, c927, c999, c1055, c1624]
  refine VGdO hx (fun g1694 hx => ?_) (fun g1694 hx => ?_)
  · obtain ⟨v758, h1695, hx⟩ := bind_elim hx
    simp only [go_sem, seval, c927, c999, c1055, c1624, g1694]
    refine VCl.sub [(0, some (.box [.d (.sl (List.map iD v1)), .d (.int .i64 v698)]))] [] rfl (by simp only [go_sem, seval, AV.viewXs, AV.viewX, avD, c927, c999, c1055, c1624, g1694]; try simp) (mk_Tape_One_ok v1 v698 v3 _ h1695) (by simp [c927, c999, c1055, c1624, g1694]) (by simp [c927, c999, c1055, c1624, g1694]) (by simp [c927, c999, c1055, c1624, g1694]) (by simp [c927, c999, c1055, c1624, g1694]) (by simp [c927, c999, c1055, c1624, g1694]) (by simp [c927, c999, c1055, c1624, g1694]) (by simp [c927, c999, c1055, c1624, g1694]) (by simp [c927, c999, c1055, c1624, g1694]) (by simp [c927, c999, c1055, c1624, g1694]) (by simp [c927, c999, c1055, c1624, g1694]) ?_
    simp only [go_sem, seval, c927, c999, c1055, c1624, g1694]
    refine hK _ ?_
    clear hK K
    refine Walk.weaken ⟨[(0, .box 0 0), (4, .box 5 0), (6, .box 7 0), (107, .d (.bool v758.1))], [(0, some (.box [.d (.sl (List.map iD v1)), .d (.int .i64 v758.2)])), (5, some (.box [.d (.int .i64 0), .d (.int .i64 0), .d (.int .i64 0), .d (.int .i64 0), .nils, .nils, .nils, .nils, .d (.int .i64 0)])), (7, some (.box [.d (.int .i64 v391.1), .d (.int .i64 (IntKind.i64.wrap (v391.1 + v392.1))), .d (.int .i64 v393.1), .d (.int .i64 v394.1), .arr 1042 0 v425.length, .arr 1045 0 v461.length, .arr 1048 0 v483.length, .arr 1072 0 v699.length, .d (.int .i64 v395.1)])), (1042, some (.arr 80 3 (List.map TRange.D v425))), (1045, some (.arr 80 3 (List.map TRange.D v461))), (1048, some (.arr 3 1 (List.map iD v483))), (1072, some (.arr 83 2 (List.map Form.D v699)))]⟩ (by simp [c927, c999, c1055, c1624, g1694] <;> omega) (by simp [c927, c999, c1055, c1624, g1694] <;> omega) ?_
    refine Walk.condO rfl hx (fun c1696 hx => ?_) (fun c1696 hx => ?_)
    · refine Walk.seq (Walk.region' rfl fun K hK => ?_)
      obtain ⟨v759, h1697, hx⟩ := bind_elim hx
      simp only [go_sem, seval, c927, c999, c1055, c1624, g1694, c1696]
      refine VCl.sub [(0, some (.box [.d (.sl (List.map iD v1)), .d (.int .i64 v758.2)]))] [] rfl (by simp only [go_sem, seval, AV.viewXs, AV.viewX, avD, c927, c999, c1055, c1624, g1694, c1696]; try simp) (mk_Tape_Next_ok v1 v758.2 7 _ h1697) (by simp [c927, c999, c1055, c1624, g1694, c1696]) (by simp [c927, c999, c1055, c1624, g1694, c1696]) (by simp [c927, c999, c1055, c1624, g1694, c1696]) (by simp [c927, c999, c1055, c1624, g1694, c1696]) (by simp [c927, c999, c1055, c1624, g1694, c1696]) (by simp [c927, c999, c1055, c1624, g1694, c1696]) (by simp [c927, c999, c1055, c1624, g1694, c1696]) (by simp [c927, c999, c1055, c1624, g1694, c1696]) (by simp [c927, c999, c1055, c1624, g1694, c1696]) (by simp [c927, c999, c1055, c1624, g1694, c1696]) ?_
      simp only [go_sem, seval, c927, c999, c1055, c1624, g1694, c1696]
      refine hK _ ?_
      clear hK K
      refine Walk.weaken ⟨[(0, .box 0 0), (4, .box 5 0), (6, .box 7 0), (109, .d (.int .i64 v759.1))], [(0, some (.box [.d (.sl (List.map iD v1)), .d (.int .i64 v759.2)])), (5, some (.box [.d (.int .i64 0), .d (.int .i64 0), .d (.int .i64 0), .d (.int .i64 0), .nils, .nils, .nils, .nils, .d (.int .i64 0)])), (7, some (.box [.d (.int .i64 v391.1), .d (.int .i64 (IntKind.i64.wrap (v391.1 + v392.1))), .d (.int .i64 v393.1), .d (.int .i64 v394.1), .arr 1042 0 v425.length, .arr 1045 0 v461.length, .arr 1048 0 v483.length, .arr 1072 0 v699.length, .d (.int .i64 v395.1)])), (1042, some (.arr 80 3 (List.map TRange.D v425))), (1045, some (.arr 80 3 (List.map TRange.D v461))), (1048, some (.arr 3 1 (List.map iD v483))), (1072, some (.arr 83 2 (List.map Form.D v699)))]⟩ (by simp [c927, c999, c1055, c1624, g1694, c1696] <;> omega) (by simp [c927, c999, c1055, c1624, g1694, c1696] <;> omega) ?_
      refine Walk.block (Walk.seq (Walk.region' rfl fun K hK => ?_))
      simp only [go_sem, seval, c927, c999, c1055, c1624, g1694, c1696]
      refine hK _ ?_
      clear hK K
      refine Walk.condO rfl hx (fun c1698 hx => ?_) (fun c1698 hx => ?_)
      · refine Walk.region' rfl fun K hK => ?_
        obtain ⟨v760, h1699, hx⟩ := bind_elim hx
        simp only [go_sem, seval, c927, c999, c1055, c1624, g1694, c1696, c1698]
        refine VCl.sub [(0, some (.box [.d (.sl (List.map iD v1)), .d (.int .i64 v759.2)]))] [] rfl (by simp only [go_sem, seval, AV.viewXs, AV.viewX, avD, c927, c999, c1055, c1624, g1694, c1696, c1698]; try simp) (mk_Tape_Wild_ok v1 v759.2 _ h1699) (by simp [c927, c999, c1055, c1624, g1694, c1696, c1698]) (by simp [c927, c999, c1055, c1624, g1694, c1696, c1698]) (by simp [c927, c999, c1055, c1624, g1694, c1696, c1698]) (by simp [c927, c999, c1055, c1624, g1694, c1696, c1698]) (by simp [c927, c999, c1055, c1624, g1694, c1696, c1698]) (by simp [c927, c999, c1055, c1624, g1694, c1696, c1698]) (by simp [c927, c999, c1055, c1624, g1694, c1696, c1698]) (by simp [c927, c999, c1055, c1624, g1694, c1696, c1698]) (by simp [c927, c999, c1055, c1624, g1694, c1696, c1698]) (by simp [c927, c999, c1055, c1624, g1694, c1696, c1698]) ?_
        simp only [go_sem, seval, c927, c999, c1055, c1624, g1694, c1696, c1698]
        refine hK _ ?_
        clear hK K
        refine Walk.weaken ⟨[(4, .box 5 0), (6, .box 7 0)], [(0, some (.box [.d (.sl (List.map iD v1)), .d (.int .i64 v760.2)])), (5, some (.box [.d (.int .i64 0), .d (.int .i64 0), .d (.int .i64 0), .d (.int .i64 0), .nils, .nils, .nils, .nils, .d (.int .i64 0)])), (7, some (.box [.d (.int .i64 v760.1), .d (.int .i64 (IntKind.i64.wrap (v391.1 + v392.1))), .d (.int .i64 v393.1), .d (.int .i64 v394.1), .arr 1042 0 v425.length, .arr 1045 0 v461.length, .arr 1048 0 v483.length, .arr 1072 0 v699.length, .d (.int .i64 v395.1)])), (1042, some (.arr 80 3 (List.map TRange.D v425))), (1045, some (.arr 80 3 (List.map TRange.D v461))), (1048, some (.arr 3 1 (List.map iD v483))), (1072, some (.arr 83 2 (List.map Form.D v699)))]⟩ (by simp [c927, c999, c1055, c1624, g1694, c1696, c1698] <;> omega) (by simp [c927, c999, c1055, c1624, g1694, c1696, c1698] <;> omega) ?_
        refine Walk.inBlock (Walk.seq (Walk.region' rfl fun K hK => ?_))
        simp only [go_sem, seval, c927, c999, c1055, c1624, g1694, c1696, c1698]
        refine hK _ ?_
        clear hK K
        refine Walk.weaken ⟨[(4, .box 5 0)], [(0, some (.box [.d (.sl (List.map iD v1)), .d (.int .i64 v760.2)])), (5, some (.box [.d (.int .i64 v760.1), .d (.int .i64 (IntKind.i64.wrap (v391.1 + v392.1))), .d (.int .i64 v393.1), .d (.int .i64 v394.1), .arr 1042 0 v425.length, .arr 1045 0 v461.length, .arr 1048 0 v483.length, .arr 1072 0 v699.length, .d (.int .i64 v395.1)])), (1042, some (.arr 80 3 (List.map TRange.D v425))), (1045, some (.arr 80 3 (List.map TRange.D v461))), (1048, some (.arr 3 1 (List.map iD v483))), (1072, some (.arr 83 2 (List.map Form.D v699)))]⟩ (by simp [c927, c999, c1055, c1624, g1694, c1696, c1698] <;> omega) (by simp [c927, c999, c1055, c1624, g1694, c1696, c1698] <;> omega) ?_
        refine Walk.rename 5 2000 (by omega) (by omega) (by simp) (by simp) ?_
        simp only [renE, renL, AV.ren, AV.rens, AObj.ren, swp, Option.map_some, reduceIte, Nat.reduceEqDiff]
        refine Walk.rename 1042 2001 (by omega) (by omega) (by simp) (by simp) ?_
        simp only [renE, renL, AV.ren, AV.rens, AObj.ren, swp, Option.map_some, reduceIte, Nat.reduceEqDiff]
        refine Walk.rename 1045 2002 (by omega) (by omega) (by simp) (by simp) ?_
        simp only [renE, renL, AV.ren, AV.rens, AObj.ren, swp, Option.map_some, reduceIte, Nat.reduceEqDiff]
        refine Walk.rename 1048 2003 (by omega) (by omega) (by simp) (by simp) ?_
        simp only [renE, renL, AV.ren, AV.rens, AObj.ren, swp, Option.map_some, reduceIte, Nat.reduceEqDiff]
        refine Walk.rename 1072 2004 (by omega) (by omega) (by simp) (by simp) ?_
        simp only [renE, renL, AV.ren, AV.rens, AObj.ren, swp, Option.map_some, reduceIte, Nat.reduceEqDiff]
        obtain rfl := Option.some.inj hx
        exact Walk.ret ⟨2000, 0, by simp, by simp, by simp [c927, c999, c1055, c1624, g1694, c1696, c1698], by simp [c927, c999, c1055, c1624, g1694, c1696, c1698]⟩
      refine Walk.seq (Walk.region' rfl fun K hK => ?_)
      simp only [go_sem, seval, c927, c999, c1055, c1624, g1694, c1696, c1698]
      refine hK _ ?_
      clear hK K
      refine Walk.condO rfl hx (fun c1700 hx => ?_) (fun c1700 hx => ?_)
      · refine Walk.region' rfl fun K hK => ?_
        obtain ⟨v761, h1701, hx⟩ := bind_elim hx
        simp only [go_sem, seval, c927, c999, c1055, c1624, g1694, c1696, c1698, c1700]
        refine VCl.sub [(0, some (.box [.d (.sl (List.map iD v1)), .d (.int .i64 v759.2)]))] [] rfl (by simp only [go_sem, seval, AV.viewXs, AV.viewX, avD, c927, c999, c1055, c1624, g1694, c1696, c1698, c1700]; try simp) (mk_Tape_Wild_ok v1 v759.2 _ h1701) (by simp [c927, c999, c1055, c1624, g1694, c1696, c1698, c1700]) (by simp [c927, c999, c1055, c1624, g1694, c1696, c1698, c1700]) (by simp [c927, c999, c1055, c1624, g1694, c1696, c1698, c1700]) (by simp [c927, c999, c1055, c1624, g1694, c1696, c1698, c1700]) (by simp [c927, c999, c1055, c1624, g1694, c1696, c1698, c1700]) (by simp [c927, c999, c1055, c1624, g1694, c1696, c1698, c1700]) (by simp [c927, c999, c1055, c1624, g1694, c1696, c1698, c1700]) (by simp [c927, c999, c1055, c1624, g1694, c1696, c1698, c1700]) (by simp [c927, c999, c1055, c1624, g1694, c1696, c1698, c1700]) (by simp [c927, c999, c1055, c1624, g1694, c1696, c1698, c1700]) ?_
        simp only [go_sem, seval, c927, c999, c1055, c1624, g1694, c1696, c1698, c1700]
        refine hK _ ?_
        clear hK K
        refine Walk.weaken ⟨[(4, .box 5 0), (6, .box 7 0)], [(0, some (.box [.d (.sl (List.map iD v1)), .d (.int .i64 v761.2)])), (5, some (.box [.d (.int .i64 0), .d (.int .i64 0), .d (.int .i64 0), .d (.int .i64 0), .nils, .nils, .nils, .nils, .d (.int .i64 0)])), (7, some (.box [.d (.int .i64 v391.1), .d (.int .i64 (IntKind.i64.wrap (v391.1 + v392.1))), .d (.int .i64 v393.1), .d (.int .i64 v761.1), .arr 1042 0 v425.length, .arr 1045 0 v461.length, .arr 1048 0 v483.length, .arr 1072 0 v699.length, .d (.int .i64 v395.1)])), (1042, some (.arr 80 3 (List.map TRange.D v425))), (1045, some (.arr 80 3 (List.map TRange.D v461))), (1048, some (.arr 3 1 (List.map iD v483))), (1072, some (.arr 83 2 (List.map Form.D v699)))]⟩ (by simp [c927, c999, c1055, c1624, g1694, c1696, c1698, c1700] <;> omega) (by simp [c927, c999, c1055, c1624, g1694, c1696, c1698, c1700] <;> omega) ?_
        refine Walk.inBlock (Walk.seq (Walk.region' rfl fun K hK => ?_))
        simp only [go_sem, seval, c927, c999, c1055, c1624, g1694, c1696, c1698, c1700]
        refine hK _ ?_
        clear hK K
        refine Walk.weaken ⟨[(4, .box 5 0)], [(0, some (.box [.d (.sl (List.map iD v1)), .d (.int .i64 v761.2)])), (5, some (.box [.d (.int .i64 v391.1), .d (.int .i64 (IntKind.i64.wrap (v391.1 + v392.1))), .d (.int .i64 v393.1), .d (.int .i64 v761.1), .arr 1042 0 v425.length, .arr 1045 0 v461.length, .arr 1048 0 v483.length, .arr 1072 0 v699.length, .d (.int .i64 v395.1)])), (1042, some (.arr 80 3 (List.map TRange.D v425))), (1045, some (.arr 80 3 (List.map TRange.D v461))), (1048, some (.arr 3 1 (List.map iD v483))), (1072, some (.arr 83 2 (List.map Form.D v699)))]⟩ (by simp [c927, c999, c1055, c1624, g1694, c1696, c1698, c1700] <;> omega) (by simp [c927, c999, c1055, c1624, g1694, c1696, c1698, c1700] <;> omega) ?_
        refine Walk.rename 5 2000 (by omega) (by omega) (by simp) (by simp) ?_
        simp only [renE, renL, AV.ren, AV.rens, AObj.ren, swp, Option.map_some, reduceIte, Nat.reduceEqDiff]
        refine Walk.rename 1042 2001 (by omega) (by omega) (by simp) (by simp) ?_
        simp only [renE, renL, AV.ren, AV.rens, AObj.ren, swp, Option.map_some, reduceIte, Nat.reduceEqDiff]
        refine Walk.rename 1045 2002 (by omega) (by omega) (by simp) (by simp) ?_
        simp only [renE, renL, AV.ren, AV.rens, AObj.ren, swp, Option.map_some, reduceIte, Nat.reduceEqDiff]
        refine Walk.rename 1048 2003 (by omega) (by omega) (by simp) (by simp) ?_
        simp only [renE, renL, AV.ren, AV.rens, AObj.ren, swp, Option.map_some, reduceIte, Nat.reduceEqDiff]
        refine Walk.rename 1072 2004 (by omega) (by omega) (by simp) (by simp) ?_
        simp only [renE, renL, AV.ren, AV.rens, AObj.ren, swp, Option.map_some, reduceIte, Nat.reduceEqDiff]
        obtain rfl := Option.some.inj hx
        exact Walk.ret ⟨2000, 0, by simp, by simp, by simp [c927, c999, c1055, c1624, g1694, c1696, c1698, c1700], by simp [c927, c999, c1055, c1624, g1694, c1696, c1698, c1700]⟩
      refine Walk.seq (Walk.region' rfl fun K hK => ?_)
      simp only [go_sem, seval, c927, c999, c1055, c1624, g1694, c1696, c1698, c1700]
      refine hK _ ?_
      clear hK K
      refine Walk.condO rfl hx (fun c1702 hx => ?_) (fun c1702 hx => ?_)
      · refine Walk.region' rfl fun K hK => ?_
        obtain ⟨v762, h1703, hx⟩ := bind_elim hx
        simp only [go_sem, seval, c927, c999, c1055, c1624, g1694, c1696, c1698, c1700, c1702]
        refine VCl.sub [(0, some (.box [.d (.sl (List.map iD v1)), .d (.int .i64 v759.2)]))] [133] rfl (by simp only [go_sem, seval, AV.viewXs, AV.viewX, avD, c927, c999, c1055, c1624, g1694, c1696, c1698, c1700, c1702]; try simp) (mk_Tape_Pick_ok v1 v759.2 [-1, 12, 13] _ h1703) (by simp [c927, c999, c1055, c1624, g1694, c1696, c1698, c1700, c1702]) (by simp [c927, c999, c1055, c1624, g1694, c1696, c1698, c1700, c1702]) (by simp [c927, c999, c1055, c1624, g1694, c1696, c1698, c1700, c1702]) (by simp [c927, c999, c1055, c1624, g1694, c1696, c1698, c1700, c1702]) (by simp [c927, c999, c1055, c1624, g1694, c1696, c1698, c1700, c1702]) (by simp [c927, c999, c1055, c1624, g1694, c1696, c1698, c1700, c1702]) (by simp [c927, c999, c1055, c1624, g1694, c1696, c1698, c1700, c1702]) (by simp [c927, c999, c1055, c1624, g1694, c1696, c1698, c1700, c1702]) (by simp [c927, c999, c1055, c1624, g1694, c1696, c1698, c1700, c1702]) (by simp [c927, c999, c1055, c1624, g1694, c1696, c1698, c1700, c1702]) ?_
        simp only [go_sem, seval, c927, c999, c1055, c1624, g1694, c1696, c1698, c1700, c1702]
        refine hK _ ?_
        clear hK K
        refine Walk.weaken ⟨[(4, .box 5 0), (6, .box 7 0)], [(0, some (.box [.d (.sl (List.map iD v1)), .d (.int .i64 v762.2)])), (5, some (.box [.d (.int .i64 0), .d (.int .i64 0), .d (.int .i64 0), .d (.int .i64 0), .nils, .nils, .nils, .nils, .d (.int .i64 0)])), (7, some (.box [.d (.int .i64 v391.1), .d (.int .i64 (IntKind.i64.wrap (v391.1 + v392.1))), .d (.int .i64 v393.1), .d (.int .i64 v394.1), .arr 1042 0 v425.length, .arr 1045 0 v461.length, .arr 1048 0 v483.length, .arr 1072 0 v699.length, .d (.int .i64 v762.1)])), (1042, some (.arr 80 3 (List.map TRange.D v425))), (1045, some (.arr 80 3 (List.map TRange.D v461))), (1048, some (.arr 3 1 (List.map iD v483))), (1072, some (.arr 83 2 (List.map Form.D v699)))]⟩ (by simp [c927, c999, c1055, c1624, g1694, c1696, c1698, c1700, c1702] <;> omega) (by simp [c927, c999, c1055, c1624, g1694, c1696, c1698, c1700, c1702] <;> omega) ?_
        refine Walk.inBlock (Walk.seq (Walk.region' rfl fun K hK => ?_))
        simp only [go_sem, seval, c927, c999, c1055, c1624, g1694, c1696, c1698, c1700, c1702]
        refine hK _ ?_
        clear hK K
        refine Walk.weaken ⟨[(4, .box 5 0)], [(0, some (.box [.d (.sl (List.map iD v1)), .d (.int .i64 v762.2)])), (5, some (.box [.d (.int .i64 v391.1), .d (.int .i64 (IntKind.i64.wrap (v391.1 + v392.1))), .d (.int .i64 v393.1), .d (.int .i64 v394.1), .arr 1042 0 v425.length, .arr 1045 0 v461.length, .arr 1048 0 v483.length, .arr 1072 0 v699.length, .d (.int .i64 v762.1)])), (1042, some (.arr 80 3 (List.map TRange.D v425))), (1045, some (.arr 80 3 (List.map TRange.D v461))), (1048, some (.arr 3 1 (List.map iD v483))), (1072, some (.arr 83 2 (List.map Form.D v699)))]⟩ (by simp [c927, c999, c1055, c1624, g1694, c1696, c1698, c1700, c1702] <;> omega) (by simp [c927, c999, c1055, c1624, g1694, c1696, c1698, c1700, c1702] <;> omega) ?_
        refine Walk.rename 5 2000 (by omega) (by omega) (by simp) (by simp) ?_
        simp only [renE, renL, AV.ren, AV.rens, AObj.ren, swp, Option.map_some, reduceIte, Nat.reduceEqDiff]
        refine Walk.rename 1042 2001 (by omega) (by omega) (by simp) (by simp) ?_
        simp only [renE, renL, AV.ren, AV.rens, AObj.ren, swp, Option.map_some, reduceIte, Nat.reduceEqDiff]
        refine Walk.rename 1045 2002 (by omega) (by omega) (by simp) (by simp) ?_
        simp only [renE, renL, AV.ren, AV.rens, AObj.ren, swp, Option.map_some, reduceIte, Nat.reduceEqDiff]
        refine Walk.rename 1048 2003 (by omega) (by omega) (by simp) (by simp) ?_
        simp only [renE, renL, AV.ren, AV.rens, AObj.ren, swp, Option.map_some, reduceIte, Nat.reduceEqDiff]
        refine Walk.rename 1072 2004 (by omega) (by omega) (by simp) (by simp) ?_
        simp only [renE, renL, AV.ren, AV.rens, AObj.ren, swp, Option.map_some, reduceIte, Nat.reduceEqDiff]
        obtain rfl := Option.some.inj hx
        exact Walk.ret ⟨2000, 0, by simp, by simp, by simp [c927, c999, c1055, c1624, g1694, c1696, c1698, c1700, c1702], by simp [c927, c999, c1055, c1624, g1694, c1696, c1698, c1700, c1702]⟩
      refine Walk.seq (Walk.region' rfl fun K hK => ?_)
      simp only [go_sem, seval, c927, c999, c1055, c1624, g1694, c1696, c1698, c1700, c1702]
      refine hK _ ?_
      clear hK K
      refine Walk.condO rfl hx (fun c1704 hx => ?_) (fun c1704 hx => ?_)
      · refine Walk.drawn' rfl mixed fun K hK => ?_
        obtain ⟨v763, h1705, hx⟩ := bind_elim hx
        simp only [go_sem, seval, c927, c999, c1055, c1624, g1694, c1696, c1698, c1700, c1702, c1704]
        refine VCl.sub [(0, some (.box [.d (.sl (List.map iD v1)), .d (.int .i64 v759.2)]))] [141] rfl (by simp only [go_sem, seval, AV.viewXs, AV.viewX, avD, c927, c999, c1055, c1624, g1694, c1696, c1698, c1700, c1702, c1704]; try simp) (mk_Tape_Pick_ok v1 v759.2 [-1, 0, 15, 16] _ h1705) (by simp [c927, c999, c1055, c1624, g1694, c1696, c1698, c1700, c1702, c1704]) (by simp [c927, c999, c1055, c1624, g1694, c1696, c1698, c1700, c1702, c1704]) (by simp [c927, c999, c1055, c1624, g1694, c1696, c1698, c1700, c1702, c1704]) (by simp [c927, c999, c1055, c1624, g1694, c1696, c1698, c1700, c1702, c1704]) (by simp [c927, c999, c1055, c1624, g1694, c1696, c1698, c1700, c1702, c1704]) (by simp [c927, c999, c1055, c1624, g1694, c1696, c1698, c1700, c1702, c1704]) (by simp [c927, c999, c1055, c1624, g1694, c1696, c1698, c1700, c1702, c1704]) (by simp [c927, c999, c1055, c1624, g1694, c1696, c1698, c1700, c1702, c1704]) (by simp [c927, c999, c1055, c1624, g1694, c1696, c1698, c1700, c1702, c1704]) (by simp [c927, c999, c1055, c1624, g1694, c1696, c1698, c1700, c1702, c1704]) ?_
        obtain ⟨v764, h1706, hx⟩ := bind_elim hx
        simp only [go_sem, seval, c927, c999, c1055, c1624, g1694, c1696, c1698, c1700, c1702, c1704]
        refine VCl.sub [(0, some (.box [.d (.sl (List.map iD v1)), .d (.int .i64 v763.2)]))] [] rfl (by simp only [go_sem, seval, AV.viewXs, AV.viewX, avD, c927, c999, c1055, c1624, g1694, c1696, c1698, c1700, c1702, c1704]; try simp) (mk_Tape_Wild_ok v1 v763.2 _ h1706) (by simp [c927, c999, c1055, c1624, g1694, c1696, c1698, c1700, c1702, c1704]) (by simp [c927, c999, c1055, c1624, g1694, c1696, c1698, c1700, c1702, c1704]) (by simp [c927, c999, c1055, c1624, g1694, c1696, c1698, c1700, c1702, c1704]) (by simp [c927, c999, c1055, c1624, g1694, c1696, c1698, c1700, c1702, c1704]) (by simp [c927, c999, c1055, c1624, g1694, c1696, c1698, c1700, c1702, c1704]) (by simp [c927, c999, c1055, c1624, g1694, c1696, c1698, c1700, c1702, c1704]) (by simp [c927, c999, c1055, c1624, g1694, c1696, c1698, c1700, c1702, c1704]) (by simp [c927, c999, c1055, c1624, g1694, c1696, c1698, c1700, c1702, c1704]) (by simp [c927, c999, c1055, c1624, g1694, c1696, c1698, c1700, c1702, c1704]) (by simp [c927, c999, c1055, c1624, g1694, c1696, c1698, c1700, c1702, c1704]) ?_
        obtain ⟨v765, h1707, hx⟩ := bind_elim hx
        simp only [go_sem, seval, c927, c999, c1055, c1624, g1694, c1696, c1698, c1700, c1702, c1704]
        refine VCl.sub [(0, some (.box [.d (.sl (List.map iD v1)), .d (.int .i64 v764.2)]))] [] rfl (by simp only [go_sem, seval, AV.viewXs, AV.viewX, avD, c927, c999, c1055, c1624, g1694, c1696, c1698, c1700, c1702, c1704]; try simp) (mk_Tape_Wild_ok v1 v764.2 _ h1707) (by simp [c927, c999, c1055, c1624, g1694, c1696, c1698, c1700, c1702, c1704]) (by simp [c927, c999, c1055, c1624, g1694, c1696, c1698, c1700, c1702, c1704]) (by simp [c927, c999, c1055, c1624, g1694, c1696, c1698, c1700, c1702, c1704]) (by simp [c927, c999, c1055, c1624, g1694, c1696, c1698, c1700, c1702, c1704]) (by simp [c927, c999, c1055, c1624, g1694, c1696, c1698, c1700, c1702, c1704]) (by simp [c927, c999, c1055, c1624, g1694, c1696, c1698, c1700, c1702, c1704]) (by simp [c927, c999, c1055, c1624, g1694, c1696, c1698, c1700, c1702, c1704]) (by simp [c927, c999, c1055, c1624, g1694, c1696, c1698, c1700, c1702, c1704]) (by simp [c927, c999, c1055, c1624, g1694, c1696, c1698, c1700, c1702, c1704]) (by simp [c927, c999, c1055, c1624, g1694, c1696, c1698, c1700, c1702, c1704]) ?_
        obtain ⟨k1708, hx⟩ := chk_elim hx
        simp only [go_sem, seval, c927, c999, c1055, c1624, g1694, c1696, c1698, c1700, c1702, c1704, k1708]
        repeat refine And.intro (by first | omega | (simp; done) | (simp; omega)) ?_
        refine hK _ _ (by kernel_rfl) (by simp [c927, c999, c1055, c1624, g1694, c1696, c1698, c1700, c1702, c1704, k1708]) ?_
        clear hK K
        refine Walk.weaken ⟨[(4, .box 5 0), (6, .box 7 0)], [(0, some (.box [.d (.sl (List.map iD v1)), .d (.int .i64 v765.2)])), (5, some (.box [.d (.int .i64 0), .d (.int .i64 0), .d (.int .i64 0), .d (.int .i64 0), .nils, .nils, .nils, .nils, .d (.int .i64 0)])), (7, some (.box [.d (.int .i64 v391.1), .d (.int .i64 (IntKind.i64.wrap (v391.1 + v392.1))), .d (.int .i64 v393.1), .d (.int .i64 v394.1), .arr 1042 0 (((v425 ++ [(TRange.mk v763.1 v764.1 v765.1)])).length), .arr 1045 0 v461.length, .arr 1048 0 v483.length, .arr 1072 0 v699.length, .d (.int .i64 v395.1)])), (1042, some (.arr 80 3 (List.map TRange.D ((v425 ++ [(TRange.mk v763.1 v764.1 v765.1)]))))), (1045, some (.arr 80 3 (List.map TRange.D v461))), (1048, some (.arr 3 1 (List.map iD v483))), (1072, some (.arr 83 2 (List.map Form.D v699)))]⟩ (by simp [c927, c999, c1055, c1624, g1694, c1696, c1698, c1700, c1702, c1704, k1708] <;> omega) (by simp [c927, c999, c1055, c1624, g1694, c1696, c1698, c1700, c1702, c1704, k1708] <;> omega) ?_
        refine Walk.inBlock (Walk.seq (Walk.region' rfl fun K hK => ?_))
        simp only [go_sem, seval, c927, c999, c1055, c1624, g1694, c1696, c1698, c1700, c1702, c1704, k1708]
        refine hK _ ?_
        clear hK K
        refine Walk.weaken ⟨[(4, .box 5 0)], [(0, some (.box [.d (.sl (List.map iD v1)), .d (.int .i64 v765.2)])), (5, some (.box [.d (.int .i64 v391.1), .d (.int .i64 (IntKind.i64.wrap (v391.1 + v392.1))), .d (.int .i64 v393.1), .d (.int .i64 v394.1), .arr 1042 0 (((v425 ++ [(TRange.mk v763.1 v764.1 v765.1)])).length), .arr 1045 0 v461.length, .arr 1048 0 v483.length, .arr 1072 0 v699.length, .d (.int .i64 v395.1)])), (1042, some (.arr 80 3 (List.map TRange.D ((v425 ++ [(TRange.mk v763.1 v764.1 v765.1)]))))), (1045, some (.arr 80 3 (List.map TRange.D v461))), (1048, some (.arr 3 1 (List.map iD v483))), (1072, some (.arr 83 2 (List.map Form.D v699)))]⟩ (by simp [c927, c999, c1055, c1624, g1694, c1696, c1698, c1700, c1702, c1704, k1708] <;> omega) (by simp [c927, c999, c1055, c1624, g1694, c1696, c1698, c1700, c1702, c1704, k1708] <;> omega) ?_
        refine Walk.rename 5 2000 (by omega) (by omega) (by simp) (by simp) ?_
        simp only [renE, renL, AV.ren, AV.rens, AObj.ren, swp, Option.map_some, reduceIte, Nat.reduceEqDiff]
        refine Walk.rename 1042 2001 (by omega) (by omega) (by simp) (by simp) ?_
        simp only [renE, renL, AV.ren, AV.rens, AObj.ren, swp, Option.map_some, reduceIte, Nat.reduceEqDiff]
        refine Walk.rename 1045 2002 (by omega) (by omega) (by simp) (by simp) ?_
        simp only [renE, renL, AV.ren, AV.rens, AObj.ren, swp, Option.map_some, reduceIte, Nat.reduceEqDiff]
        refine Walk.rename 1048 2003 (by omega) (by omega) (by simp) (by simp) ?_
        simp only [renE, renL, AV.ren, AV.rens, AObj.ren, swp, Option.map_some, reduceIte, Nat.reduceEqDiff]
        refine Walk.rename 1072 2004 (by omega) (by omega) (by simp) (by simp) ?_
        simp only [renE, renL, AV.ren, AV.rens, AObj.ren, swp, Option.map_some, reduceIte, Nat.reduceEqDiff]
        obtain rfl := Option.some.inj hx
        exact Walk.ret ⟨2000, 0, by simp, by simp, by simp [c927, c999, c1055, c1624, g1694, c1696, c1698, c1700, c1702, c1704, k1708], by simp [c927, c999, c1055, c1624, g1694, c1696, c1698, c1700, c1702, c1704, k1708]⟩
      refine Walk.seq (Walk.region' rfl fun K hK => ?_)
      simp only [go_sem, seval, c927, c999, c1055, c1624, g1694, c1696, c1698, c1700, c1702, c1704]
      refine hK _ ?_
      clear hK K
      refine Walk.condO rfl hx (fun c1709 hx => ?_) (fun c1709 hx => ?_)
      · refine Walk.drawn' rfl mixed fun K hK => ?_
        obtain ⟨v766, h1710, hx⟩ := bind_elim hx
        simp only [go_sem, seval, c927, c999, c1055, c1624, g1694, c1696, c1698, c1700, c1702, c1704, c1709]
        refine VCl.sub [(0, some (.box [.d (.sl (List.map iD v1)), .d (.int .i64 v759.2)]))] [156] rfl (by simp only [go_sem, seval, AV.viewXs, AV.viewX, avD, c927, c999, c1055, c1624, g1694, c1696, c1698, c1700, c1702, c1704, c1709]; try simp) (mk_Tape_Pick_ok v1 v759.2 [0, -1, 9] _ h1710) (by simp [c927, c999, c1055, c1624, g1694, c1696, c1698, c1700, c1702, c1704, c1709]) (by simp [c927, c999, c1055, c1624, g1694, c1696, c1698, c1700, c1702, c1704, c1709]) (by simp [c927, c999, c1055, c1624, g1694, c1696, c1698, c1700, c1702, c1704, c1709]) (by simp [c927, c999, c1055, c1624, g1694, c1696, c1698, c1700, c1702, c1704, c1709]) (by simp [c927, c999, c1055, c1624, g1694, c1696, c1698, c1700, c1702, c1704, c1709]) (by simp [c927, c999, c1055, c1624, g1694, c1696, c1698, c1700, c1702, c1704, c1709]) (by simp [c927, c999, c1055, c1624, g1694, c1696, c1698, c1700, c1702, c1704, c1709]) (by simp [c927, c999, c1055, c1624, g1694, c1696, c1698, c1700, c1702, c1704, c1709]) (by simp [c927, c999, c1055, c1624, g1694, c1696, c1698, c1700, c1702, c1704, c1709]) (by simp [c927, c999, c1055, c1624, g1694, c1696, c1698, c1700, c1702, c1704, c1709]) ?_
        obtain ⟨k1711, hx⟩ := chk_elim hx
        simp only [go_sem, seval, c927, c999, c1055, c1624, g1694, c1696, c1698, c1700, c1702, c1704, c1709, k1711]
        repeat refine And.intro (by first | omega | (simp; done) | (simp; omega)) ?_
        refine hK _ _ (by kernel_rfl) (by simp [c927, c999, c1055, c1624, g1694, c1696, c1698, c1700, c1702, c1704, c1709, k1711]) ?_
        clear hK K
        refine Walk.weaken ⟨[(4, .box 5 0), (6, .box 7 0)], [(0, some (.box [.d (.sl (List.map iD v1)), .d (.int .i64 v766.2)])), (5, some (.box [.d (.int .i64 0), .d (.int .i64 0), .d (.int .i64 0), .d (.int .i64 0), .nils, .nils, .nils, .nils, .d (.int .i64 0)])), (7, some (.box [.d (.int .i64 v391.1), .d (.int .i64 (IntKind.i64.wrap (v391.1 + v392.1))), .d (.int .i64 v393.1), .d (.int .i64 v394.1), .arr 1042 0 v425.length, .arr 1045 0 v461.length, .arr 1048 0 ((v483 ++ [v766.1]).length), .arr 1072 0 v699.length, .d (.int .i64 v395.1)])), (1042, some (.arr 80 3 (List.map TRange.D v425))), (1045, some (.arr 80 3 (List.map TRange.D v461))), (1048, some (.arr 3 1 (List.map iD (v483 ++ [v766.1])))), (1072, some (.arr 83 2 (List.map Form.D v699)))]⟩ (by simp [c927, c999, c1055, c1624, g1694, c1696, c1698, c1700, c1702, c1704, c1709, k1711] <;> omega) (by simp [c927, c999, c1055, c1624, g1694, c1696, c1698, c1700, c1702, c1704, c1709, k1711] <;> omega) ?_
        refine Walk.inBlock (Walk.seq (Walk.region' rfl fun K hK => ?_))
        simp only [go_sem, seval, c927, c999, c1055, c1624, g1694, c1696, c1698, c1700, c1702, c1704, c1709, k1711]
        refine hK _ ?_
        clear hK K
        refine Walk.weaken ⟨[(4, .box 5 0)], [(0, some (.box [.d (.sl (List.map iD v1)), .d (.int .i64 v766.2)])), (5, some (.box [.d (.int .i64 v391.1), .d (.int .i64 (IntKind.i64.wrap (v391.1 + v392.1))), .d (.int .i64 v393.1), .d (.int .i64 v394.1), .arr 1042 0 v425.length, .arr 1045 0 v461.length, .arr 1048 0 ((v483 ++ [v766.1]).length), .arr 1072 0 v699.length, .d (.int .i64 v395.1)])), (1042, some (.arr 80 3 (List.map TRange.D v425))), (1045, some (.arr 80 3 (List.map TRange.D v461))), (1048, some (.arr 3 1 (List.map iD (v483 ++ [v766.1])))), (1072, some (.arr 83 2 (List.map Form.D v699)))]⟩ (by simp [c927, c999, c1055, c1624, g1694, c1696, c1698, c1700, c1702, c1704, c1709, k1711] <;> omega) (by simp [c927, c999, c1055, c1624, g1694, c1696, c1698, c1700, c1702, c1704, c1709, k1711] <;> omega) ?_
        refine Walk.rename 5 2000 (by omega) (by omega) (by simp) (by simp) ?_
        simp only [renE, renL, AV.ren, AV.rens, AObj.ren, swp, Option.map_some, reduceIte, Nat.reduceEqDiff]
        refine Walk.rename 1042 2001 (by omega) (by omega) (by simp) (by simp) ?_
        simp only [renE, renL, AV.ren, AV.rens, AObj.ren, swp, Option.map_some, reduceIte, Nat.reduceEqDiff]
        refine Walk.rename 1045 2002 (by omega) (by omega) (by simp) (by simp) ?_
        simp only [renE, renL, AV.ren, AV.rens, AObj.ren, swp, Option.map_some, reduceIte, Nat.reduceEqDiff]
        refine Walk.rename 1048 2003 (by omega) (by omega) (by simp) (by simp) ?_
        simp only [renE, renL, AV.ren, AV.rens, AObj.ren, swp, Option.map_some, reduceIte, Nat.reduceEqDiff]
        refine Walk.rename 1072 2004 (by omega) (by omega) (by simp) (by simp) ?_
        simp only [renE, renL, AV.ren, AV.rens, AObj.ren, swp, Option.map_some, reduceIte, Nat.reduceEqDiff]
        obtain rfl := Option.some.inj hx
        exact Walk.ret ⟨2000, 0, by simp, by simp, by simp [c927, c999, c1055, c1624, g1694, c1696, c1698, c1700, c1702, c1704, c1709, k1711], by simp [c927, c999, c1055, c1624, g1694, c1696, c1698, c1700, c1702, c1704, c1709, k1711]⟩
      refine Walk.seq (Walk.region' rfl fun K hK => ?_)
      simp only [go_sem, seval, c927, c999, c1055, c1624, g1694, c1696, c1698, c1700, c1702, c1704, c1709]
      refine hK _ ?_
      clear hK K
      refine Walk.condO rfl hx (fun c1712 hx => ?_) (fun c1712 hx => ?_)
      · refine Walk.region' rfl fun K hK => ?_
        obtain ⟨k1713, hx⟩ := chk_elim hx
        simp only [go_sem, seval, c927, c999, c1055, c1624, g1694, c1696, c1698, c1700, c1702, c1704, c1709, c1712, k1713]
        repeat refine And.intro (by first | omega | (simp; done) | (simp; omega)) ?_
        refine hK _ ?_
        clear hK K
        refine Walk.weaken ⟨[(4, .box 5 0), (6, .box 7 0)], [(0, some (.box [.d (.sl (List.map iD v1)), .d (.int .i64 v759.2)])), (5, some (.box [.d (.int .i64 0), .d (.int .i64 0), .d (.int .i64 0), .d (.int .i64 0), .nils, .nils, .nils, .nils, .d (.int .i64 0)])), (7, some (.box [.d (.int .i64 v391.1), .d (.int .i64 (IntKind.i64.wrap (v391.1 + v392.1))), .d (.int .i64 v393.1), .d (.int .i64 v394.1), .arr 1042 0 v425.length, .arr 1045 0 v461.length, .arr 1048 0 v483.length, .arr 1072 0 (((v699 ++ ([(Form.mk 0 []), (Form.mk 0 []), (Form.mk 0 [])]))).length), .d (.int .i64 v395.1)])), (1042, some (.arr 80 3 (List.map TRange.D v425))), (1045, some (.arr 80 3 (List.map TRange.D v461))), (1048, some (.arr 3 1 (List.map iD v483))), (1072, some (.arr 83 2 (List.map Form.D ((v699 ++ ([(Form.mk 0 []), (Form.mk 0 []), (Form.mk 0 [])]))))))]⟩ (by simp [c927, c999, c1055, c1624, g1694, c1696, c1698, c1700, c1702, c1704, c1709, c1712, k1713] <;> omega) (by simp [c927, c999, c1055, c1624, g1694, c1696, c1698, c1700, c1702, c1704, c1709, c1712, k1713] <;> omega) ?_
        refine Walk.inBlock (Walk.seq (Walk.region' rfl fun K hK => ?_))
        simp only [go_sem, seval, c927, c999, c1055, c1624, g1694, c1696, c1698, c1700, c1702, c1704, c1709, c1712, k1713]
        refine hK _ ?_
        clear hK K
        refine Walk.weaken ⟨[(4, .box 5 0)], [(0, some (.box [.d (.sl (List.map iD v1)), .d (.int .i64 v759.2)])), (5, some (.box [.d (.int .i64 v391.1), .d (.int .i64 (IntKind.i64.wrap (v391.1 + v392.1))), .d (.int .i64 v393.1), .d (.int .i64 v394.1), .arr 1042 0 v425.length, .arr 1045 0 v461.length, .arr 1048 0 v483.length, .arr 1072 0 (((v699 ++ ([(Form.mk 0 []), (Form.mk 0 []), (Form.mk 0 [])]))).length), .d (.int .i64 v395.1)])), (1042, some (.arr 80 3 (List.map TRange.D v425))), (1045, some (.arr 80 3 (List.map TRange.D v461))), (1048, some (.arr 3 1 (List.map iD v483))), (1072, some (.arr 83 2 (List.map Form.D ((v699 ++ ([(Form.mk 0 []), (Form.mk 0 []), (Form.mk 0 [])]))))))]⟩ (by simp [c927, c999, c1055, c1624, g1694, c1696, c1698, c1700, c1702, c1704, c1709, c1712, k1713] <;> omega) (by simp [c927, c999, c1055, c1624, g1694, c1696, c1698, c1700, c1702, c1704, c1709, c1712, k1713] <;> omega) ?_
        refine Walk.rename 5 2000 (by omega) (by omega) (by simp) (by simp) ?_
        simp only [renE, renL, AV.ren, AV.rens, AObj.ren, swp, Option.map_some, reduceIte, Nat.reduceEqDiff]
        refine Walk.rename 1042 2001 (by omega) (by omega) (by simp) (by simp) ?_
        simp only [renE, renL, AV.ren, AV.rens, AObj.ren, swp, Option.map_some, reduceIte, Nat.reduceEqDiff]
        refine Walk.rename 1045 2002 (by omega) (by omega) (by simp) (by simp) ?_
        simp only [renE, renL, AV.ren, AV.rens, AObj.ren, swp, Option.map_some, reduceIte, Nat.reduceEqDiff]
        refine Walk.rename 1048 2003 (by omega) (by omega) (by simp) (by simp) ?_
        simp only [renE, renL, AV.ren, AV.rens, AObj.ren, swp, Option.map_some, reduceIte, Nat.reduceEqDiff]
        refine Walk.rename 1072 2004 (by omega) (by omega) (by simp) (by simp) ?_
        simp only [renE, renL, AV.ren, AV.rens, AObj.ren, swp, Option.map_some, reduceIte, Nat.reduceEqDiff]
        obtain rfl := Option.some.inj hx
        exact Walk.ret ⟨2000, 0, by simp, by simp, by simp [c927, c999, c1055, c1624, g1694, c1696, c1698, c1700, c1702, c1704, c1709, c1712, k1713], by simp [c927, c999, c1055, c1624, g1694, c1696, c1698, c1700, c1702, c1704, c1709, c1712, k1713]⟩
      refine Walk.drawn' rfl mixed fun K hK => ?_
      obtain ⟨v767, h1714, hx⟩ := bind_elim hx
      simp only [go_sem, seval, c927, c999, c1055, c1624, g1694, c1696, c1698, c1700, c1702, c1704, c1709, c1712]
      refine VCl.sub [(0, some (.box [.d (.sl (List.map iD v1)), .d (.int .i64 v759.2)]))] [114] rfl (by simp only [go_sem, seval, AV.viewXs, AV.viewX, avD, c927, c999, c1055, c1624, g1694, c1696, c1698, c1700, c1702, c1704, c1709, c1712]; try simp) (mk_Tape_Pick_ok v1 v759.2 [0, 5, 6] _ h1714) (by simp [c927, c999, c1055, c1624, g1694, c1696, c1698, c1700, c1702, c1704, c1709, c1712]) (by simp [c927, c999, c1055, c1624, g1694, c1696, c1698, c1700, c1702, c1704, c1709, c1712]) (by simp [c927, c999, c1055, c1624, g1694, c1696, c1698, c1700, c1702, c1704, c1709, c1712]) (by simp [c927, c999, c1055, c1624, g1694, c1696, c1698, c1700, c1702, c1704, c1709, c1712]) (by simp [c927, c999, c1055, c1624, g1694, c1696, c1698, c1700, c1702, c1704, c1709, c1712]) (by simp [c927, c999, c1055, c1624, g1694, c1696, c1698, c1700, c1702, c1704, c1709, c1712]) (by simp [c927, c999, c1055, c1624, g1694, c1696, c1698, c1700, c1702, c1704, c1709, c1712]) (by simp [c927, c999, c1055, c1624, g1694, c1696, c1698, c1700, c1702, c1704, c1709, c1712]) (by simp [c927, c999, c1055, c1624, g1694, c1696, c1698, c1700, c1702, c1704, c1709, c1712]) (by simp [c927, c999, c1055, c1624, g1694, c1696, c1698, c1700, c1702, c1704, c1709, c1712]) ?_
      obtain ⟨k1715, hx⟩ := chk_elim hx
      simp only [go_sem, seval, c927, c999, c1055, c1624, g1694, c1696, c1698, c1700, c1702, c1704, c1709, c1712, k1715]
      repeat refine And.intro (by first | omega | (simp; done) | (simp; omega)) ?_
      refine hK _ _ (by kernel_rfl) (by simp [c927, c999, c1055, c1624, g1694, c1696, c1698, c1700, c1702, c1704, c1709, c1712, k1715]) ?_
      clear hK K
      refine Walk.weaken ⟨[(4, .box 5 0), (6, .box 7 0)], [(0, some (.box [.d (.sl (List.map iD v1)), .d (.int .i64 v767.2)])), (5, some (.box [.d (.int .i64 0), .d (.int .i64 0), .d (.int .i64 0), .d (.int .i64 0), .nils, .nils, .nils, .nils, .d (.int .i64 0)])), (7, some (.box [.d (.int .i64 v391.1), .d (.int .i64 (IntKind.i64.wrap (v391.1 + v392.1))), .d (.int .i64 v393.1), .d (.int .i64 v394.1), .arr 1042 0 v425.length, .arr 1045 0 (((v461 ++ [(TRange.mk v767.1 0 4)])).length), .arr 1048 0 v483.length, .arr 1072 0 v699.length, .d (.int .i64 v395.1)])), (1042, some (.arr 80 3 (List.map TRange.D v425))), (1045, some (.arr 80 3 (List.map TRange.D ((v461 ++ [(TRange.mk v767.1 0 4)]))))), (1048, some (.arr 3 1 (List.map iD v483))), (1072, some (.arr 83 2 (List.map Form.D v699)))]⟩ (by simp [c927, c999, c1055, c1624, g1694, c1696, c1698, c1700, c1702, c1704, c1709, c1712, k1715] <;> omega) (by simp [c927, c999, c1055, c1624, g1694, c1696, c1698, c1700, c1702, c1704, c1709, c1712, k1715] <;> omega) ?_
      refine Walk.inBlock (Walk.seq (Walk.region' rfl fun K hK => ?_))
      simp only [go_sem, seval, c927, c999, c1055, c1624, g1694, c1696, c1698, c1700, c1702, c1704, c1709, c1712, k1715]
      refine hK _ ?_
      clear hK K
      refine Walk.weaken ⟨[(4, .box 5 0)], [(0, some (.box [.d (.sl (List.map iD v1)), .d (.int .i64 v767.2)])), (5, some (.box [.d (.int .i64 v391.1), .d (.int .i64 (IntKind.i64.wrap (v391.1 + v392.1))), .d (.int .i64 v393.1), .d (.int .i64 v394.1), .arr 1042 0 v425.length, .arr 1045 0 (((v461 ++ [(TRange.mk v767.1 0 4)])).length), .arr 1048 0 v483.length, .arr 1072 0 v699.length, .d (.int .i64 v395.1)])), (1042, some (.arr 80 3 (List.map TRange.D v425))), (1045, some (.arr 80 3 (List.map TRange.D ((v461 ++ [(TRange.mk v767.1 0 4)]))))), (1048, some (.arr 3 1 (List.map iD v483))), (1072, some (.arr 83 2 (List.map Form.D v699)))]⟩ (by simp [c927, c999, c1055, c1624, g1694, c1696, c1698, c1700, c1702, c1704, c1709, c1712, k1715] <;> omega) (by simp [c927, c999, c1055, c1624, g1694, c1696, c1698, c1700, c1702, c1704, c1709, c1712, k1715] <;> omega) ?_
      refine Walk.rename 5 2000 (by omega) (by omega) (by simp) (by simp) ?_
      simp only [renE, renL, AV.ren, AV.rens, AObj.ren, swp, Option.map_some, reduceIte, Nat.reduceEqDiff]
      refine Walk.rename 1042 2001 (by omega) (by omega) (by simp) (by simp) ?_
      simp only [renE, renL, AV.ren, AV.rens, AObj.ren, swp, Option.map_some, reduceIte, Nat.reduceEqDiff]
      refine Walk.rename 1045 2002 (by omega) (by omega) (by simp) (by simp) ?_
      simp only [renE, renL, AV.ren, AV.rens, AObj.ren, swp, Option.map_some, reduceIte, Nat.reduceEqDiff]
      refine Walk.rename 1048 2003 (by omega) (by omega) (by simp) (by simp) ?_
      simp only [renE, renL, AV.ren, AV.rens, AObj.ren, swp, Option.map_some, reduceIte, Nat.reduceEqDiff]
      refine Walk.rename 1072 2004 (by omega) (by omega) (by simp) (by simp) ?_
      simp only [renE, renL, AV.ren, AV.rens, AObj.ren, swp, Option.map_some, reduceIte, Nat.reduceEqDiff]
      obtain rfl := Option.some.inj hx
      exact Walk.ret ⟨2000, 0, by simp, by simp, by simp [c927, c999, c1055, c1624, g1694, c1696, c1698, c1700, c1702, c1704, c1709, c1712, k1715], by simp [c927, c999, c1055, c1624, g1694, c1696, c1698, c1700, c1702, c1704, c1709, c1712, k1715]⟩
    refine Walk.skip (Walk.seq (Walk.region' rfl fun K hK => ?_))
    simp only [go_sem, seval, c927, c999, c1055, c1624, g1694, c1696]
    refine hK _ ?_
    clear hK K
    refine Walk.weaken ⟨[(4, .box 5 0)], [(0, some (.box [.d (.sl (List.map iD v1)), .d (.int .i64 v758.2)])), (5, some (.box [.d (.int .i64 v391.1), .d (.int .i64 (IntKind.i64.wrap (v391.1 + v392.1))), .d (.int .i64 v393.1), .d (.int .i64 v394.1), .arr 1042 0 v425.length, .arr 1045 0 v461.length, .arr 1048 0 v483.length, .arr 1072 0 v699.length, .d (.int .i64 v395.1)])), (1042, some (.arr 80 3 (List.map TRange.D v425))), (1045, some (.arr 80 3 (List.map TRange.D v461))), (1048, some (.arr 3 1 (List.map iD v483))), (1072, some (.arr 83 2 (List.map Form.D v699)))]⟩ (by simp [c927, c999, c1055, c1624, g1694, c1696] <;> omega) (by simp [c927, c999, c1055, c1624, g1694, c1696] <;> omega) ?_
    refine Walk.rename 5 2000 (by omega) (by omega) (by simp) (by simp) ?_
    simp only [renE, renL, AV.ren, AV.rens, AObj.ren, swp, Option.map_some, reduceIte, Nat.reduceEqDiff]
    refine Walk.rename 1042 2001 (by omega) (by omega) (by simp) (by simp) ?_
    simp only [renE, renL, AV.ren, AV.rens, AObj.ren, swp, Option.map_some, reduceIte, Nat.reduceEqDiff]
    refine Walk.rename 1045 2002 (by omega) (by omega) (by simp) (by simp) ?_
    simp only [renE, renL, AV.ren, AV.rens, AObj.ren, swp, Option.map_some, reduceIte, Nat.reduceEqDiff]
    refine Walk.rename 1048 2003 (by omega) (by omega) (by simp) (by simp) ?_
    simp only [renE, renL, AV.ren, AV.rens, AObj.ren, swp, Option.map_some, reduceIte, Nat.reduceEqDiff]
    refine Walk.rename 1072 2004 (by omega) (by omega) (by simp) (by simp) ?_
    simp only [renE, renL, AV.ren, AV.rens, AObj.ren, swp, Option.map_some, reduceIte, Nat.reduceEqDiff]
    obtain rfl := Option.some.inj hx
    exact Walk.ret ⟨2000, 0, by simp, by simp, by simp [c927, c999, c1055, c1624, g1694, c1696], by simp [c927, c999, c1055, c1624, g1694, c1696]⟩
  simp only [go_sem, seval, c927, c999, c1055, c1624, g1694]
  refine hK _ ?_
  clear hK K
  refine Walk.condF rfl (Walk.skip (Walk.seq (Walk.region' rfl fun K hK => ?_)))
  simp only [go_sem, seval, c927, c999, c1055, c1624, g1694]
  refine hK _ ?_
  clear hK K
  refine Walk.weaken ⟨[(4, .box 5 0)], [(0, some (.box [.d (.sl (List.map iD v1)), .d (.int .i64 v698)])), (5, some (.box [.d (.int .i64 v391.1), .d (.int .i64 (IntKind.i64.wrap (v391.1 + v392.1))), .d (.int .i64 v393.1), .d (.int .i64 v394.1), .arr 1042 0 v425.length, .arr 1045 0 v461.length, .arr 1048 0 v483.length, .arr 1072 0 v699.length, .d (.int .i64 v395.1)])), (1042, some (.arr 80 3 (List.map TRange.D v425))), (1045, some (.arr 80 3 (List.map TRange.D v461))), (1048, some (.arr 3 1 (List.map iD v483))), (1072, some (.arr 83 2 (List.map Form.D v699)))]⟩ (by simp [c927, c999, c1055, c1624, g1694] <;> omega) (by simp [c927, c999, c1055, c1624, g1694] <;> omega) ?_
  refine Walk.rename 5 2000 (by omega) (by omega) (by simp) (by simp) ?_
  simp only [renE, renL, AV.ren, AV.rens, AObj.ren, swp, Option.map_some, reduceIte, Nat.reduceEqDiff]
  refine Walk.rename 1042 2001 (by omega) (by omega) (by simp) (by simp) ?_
  simp only [renE, renL, AV.ren, AV.rens, AObj.ren, swp, Option.map_some, reduceIte, Nat.reduceEqDiff]
  refine Walk.rename 1045 2002 (by omega) (by omega) (by simp) (by simp) ?_
  simp only [renE, renL, AV.ren, AV.rens, AObj.ren, swp, Option.map_some, reduceIte, Nat.reduceEqDiff]
  refine Walk.rename 1048 2003 (by omega) (by omega) (by simp) (by simp) ?_
  simp only [renE, renL, AV.ren, AV.rens, AObj.ren, swp, Option.map_some, reduceIte, Nat.reduceEqDiff]
  refine Walk.rename 1072 2004 (by omega) (by omega) (by simp) (by simp) ?_
  simp only [renE, renL, AV.ren, AV.rens, AObj.ren, swp, Option.map_some, reduceIte, Nat.reduceEqDiff]
  obtain rfl := Option.some.inj hx
  exact Walk.ret ⟨2000, 0, by simp, by simp, by simp [c927, c999, c1055, c1624, g1694], by simp [c927, c999, c1055, c1624, g1694]⟩
end Go.AX

