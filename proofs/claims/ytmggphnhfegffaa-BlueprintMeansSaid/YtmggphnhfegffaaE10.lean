import Derived.Test.YtmggphnhfegffaaE9
set_option linter.unusedVariables false
set_option linter.unusedSimpArgs false
set_option maxRecDepth 20000
set_option maxHeartbeats 4000000
namespace Go.AX
open Go.Proofs
attribute [local simp] take_map_len subE subH eget hget upE upV upH upO_refl upO_box upVs freshE freshH freshO AV.ids AV.idsL ids_box ids_arr frE frV_refl frV_arr frH frO_refl frO_box frVs newOk evalA AV.viewXs AV.viewX AV.viewXP AV.viewXPs AV.viewPs AV.viewP AV.flat AV.flatL D.flat arrsOnly flatObjs newNames subOf closedIn allSome dstOk newOrOld avD avDp zv_i64 zv_u8 zv_bool zv_nils zv_nilp zv_str retAV aLoad cut TI.isAgg nlE nlH nlO_refl nlO_box nlVs nlV_refl nlV_nil iD uD bD tD lD List.map_set ti2 ti3 ti4 ti5 ti6 ti7 ti8 ti9 ti10 ti11 ti12 ti13 ti14 ti15 ti16 ti17 ti18 ti19 ti21 ti22 ti23 ti25 ti26 ti27 ti31 ti32 ti41 ti51 ti52 ti53 ti54 ti56 ti58 ti60 ti61 ti62 ti67 ti68 ti71 ti72 ti79 ti80 ti81 ti82 ti83 ti84 ti85 ti89 ti93 ti94 ti95 ti110 ti124 ti125 ti126 ti127 ti128 ti129 ti130 ti131 ti133 ti134 ti135 ti136 ti137 Row.D TRange.D Ref.D Form.D Part.D TItem.D
attribute [local go_sem] V1_none V1_some V_nil V_move V_assign V_pick V_bin V_un V_extract V_makeFunc V_convert V_nilCheck V_fieldAddr V_field V_load V_store V_indexAddr V_index V_slice V_slice0 V_alloc V_box V_build V_buildSlice V_makeSlice V_len V_min V_max V_append V_call V_guard VGs_some VG_tt VG_ff VG_tf VG_ft VG_u gslot ok fail po so aNew dstOk freshU addLog_none' addLog_some' St.step putL evalA eget hget argE freshE freshO freshH AV.ids AV.idsL AV.ok1 AV.cells ids_box ids_arr liveBox liveArr isArr aPick aBin aUn aExtract aMakeFunc aConvert aNilCheck aFieldAddr aField cut aLen aIndexAddr aMin aMax aIndex bnd isInt aSlice aSlice0 aLoad aAlloc aBox aStore splice aMake updIds newIds zv_i64 zv_u8 zv_bool zv_nils zv_nilp cond_bool cond_int TI.isAgg TK.isSl TK.el okL avDps avDp avD List.map_cons List.map_nil List.append_nil List.nil_append List.cons_append List.length_cons List.length_nil List.take_succ_cons List.take_zero List.drop_succ_cons List.drop_zero List.take_nil List.drop_nil List.headD_cons List.getD_cons_zero List.getD_cons_succ List.mem_cons List.not_mem_nil List.getElem?_cons_zero List.getElem?_cons_succ List.toList_toArray Option.getD_some Option.getD_none Option.bind_some Option.bind_none Option.map_some Option.map_none Option.getD Option.toList Nat.zero_add Nat.add_zero Nat.zero_le Nat.le_refl if_true if_false ite_self true_and and_true false_and and_false true_or or_true false_or or_false not_true_eq_false not_false_eq_true ne_eq cond_true cond_false Bool.true_eq_false Bool.false_eq_true forall_const decide_true decide_false implies_true true_implies and_self or_self Nat.succ_ne_zero Int.toNat_natCast Int.natCast_nonneg List.length_map decide_eq_true_eq AV.views AV.view AV.viewPs AV.viewP arrsOnly newNames List.length_append List.append_assoc Bool.not_true Bool.not_false AV.ok2 aBuild fillR fillP aBuildSlice dense elP aAppend esOf esOfP List.forall_mem_cons forall_eq_or_imp forall_eq zD zDp map_take' map_drop' iD uD bD tD lD iD_len uD_len bD_len tD_len lD_len LB Int.cast_ofNat_Int Int.natCast_zero Int.natCast_one head_len all_len List.head?_cons List.head?_nil Bool.not_not eq_self List.take_length zv_str aConv byteOf isByte map_bcell bytes_all str_map cellsEq cellsP AV.kd Bool.and_true Bool.true_and Bool.and_false Bool.false_and ti2 ti3 ti4 ti5 ti6 ti7 ti8 ti9 ti10 ti11 ti12 ti13 ti14 ti15 ti16 ti17 ti18 ti19 ti21 ti22 ti23 ti25 ti26 ti27 ti31 ti32 ti41 ti51 ti52 ti53 ti54 ti56 ti58 ti60 ti61 ti62 ti67 ti68 ti71 ti72 ti79 ti80 ti81 ti82 ti83 ti84 ti85 ti89 ti93 ti94 ti95 ti110 ti124 ti125 ti126 ti127 ti128 ti129 ti130 ti131 ti133 ti134 ti135 ti136 ti137 Row.D TRange.D Ref.D Form.D Part.D TItem.D Row.D_len TRange.D_len Ref.D_len Form.D_len Part.D_len TItem.D_len zs_ zs_48_49_50_51_52_53_54_55_56_57_48_49_50_51_52_53_54_55_56_57_48_49_50_51_52_53_54_55_56_57_48_49_50_51_52_53_54_55_56_57_120 zs_113 zs_116_97_98_9 eqf85_00
noncomputable def blueprint_Rows_l2 (v10 : List TItem) (v380 : TItem) (v363 : Int) (v385 : Int) (v386 : List Row) : Option ((Int × List Row) ⊕ ((Int × List Row) ⊕ (List Row × Int))) :=
  bif decide (v385 < (v10.length : Int)) then ((rd v10 v385).bind fun v391 => bif decide (v380.ID = v391.ID) then ((blueprint_table_add__Rows_7 v10 v386 v363 v385 [(TRange.mk 0 0 1)]).bind fun v392 => contO ((IntKind.i64.wrap (v385 + 1), v392) : Int × List Row)) else ((item_Enemy v380.ID v380.Version v380.Stem v380.Parts v380.Enemies v391.ID v391.Version v391.Stem v391.Parts v391.Enemies).bind fun v393 => bif v393 then ((blueprint_table_add__Rows_7 v10 v386 v363 v385 [(TRange.mk 0 0 1)]).bind fun v394 => contO ((IntKind.i64.wrap (v385 + 1), v394) : Int × List Row)) else (contO ((IntKind.i64.wrap (v385 + 1), v386) : Int × List Row)))) else (exitO (contO ((IntKind.i64.wrap (v363 + 1), v386) : Int × List Row)))
noncomputable def blueprint_Rows_l3 (v8 : List Form) (v10 : List TItem) (v9 : Int) (v413 : Int) (v414 : List Row) : Option ((Int × List Row) ⊕ (List Row × Int)) :=
  bif decide (v413 < (v8.length : Int)) then ((rd v8 v413).bind fun v417 => (blueprint_table_add__Rows_8 v10 v414 v417.Code v417.Items v10 [(TRange.mk 0 0 v9)]).bind fun v418 => contO ((IntKind.i64.wrap (v413 + 1), v418) : Int × List Row)) else (exitO (bif decide ((v414.length : Int) > 60) then (some (([], 3) : List Row × Int)) else (some ((v414, 0) : List Row × Int))))
noncomputable def blueprint_Rows_l1 (v10 : List TItem) (v8 : List Form) (v9 : Int) (v363 : Int) (v364 : List Row) : Option ((Int × List Row) ⊕ (List Row × Int)) :=
  bif decide (v363 < (v10.length : Int)) then ((rd v10 v363).bind fun v380 => iter (fun g : Int × List Row => blueprint_Rows_l2 v10 v380 v363 g.1 g.2) (IntKind.i64.wrap (v363 + 1), v364)) else (exitO (iter (fun g : Int × List Row => blueprint_Rows_l3 v8 v10 v9 g.1 g.2) (0, v364)))
noncomputable def blueprint_Rows_l0 (v7 : List Int) (v10 : List TItem) (v8 : List Form) (v9 : Int) (v248 : Int) (v249 : List Row) : Option ((Int × List Row) ⊕ (List Row × Int)) :=
  bif decide (v248 < (v7.length : Int)) then ((rd v7 v248).bind fun v252 => (blueprint_table_add__Rows_6 v10 v249 v10 [(TRange.mk v252 1 1)]).bind fun v253 => contO ((IntKind.i64.wrap (v248 + 1), v253) : Int × List Row)) else (exitO (iter (fun g : Int × List Row => blueprint_Rows_l1 v10 v8 v9 g.1 g.2) (0, v249)))
noncomputable def blueprint_Rows (v1 : Int) (v2 : Int) (v3 : Int) (v4 : Int) (v5 : List TRange) (v6 : List TRange) (v7 : List Int) (v8 : List Form) (v9 : Int) (v10 : List TItem) : Option (List Row × Int) :=
  (blueprint_Check v1 v2 v3 v4 v5 v6 v7 v8 v9).bind fun v218 => bif decide (¬ v218 = 0) then (some (([], v218) : List Row × Int)) else (bif decide ((v10.length : Int) > 12) then (some (([], 3) : List Row × Int)) else ((slices_ContainsFunc_Item__Rows_1 v10).bind fun v225 => bif v225 then (some (([], 1) : List Row × Int)) else ((blueprint_table_add__Rows_2 v10 [(TRange.mk 0 v1 v2)]).bind fun v226 => (blueprint_table_add__Rows_3 v10 v226 v10 [(TRange.mk 0 v3 v4)]).bind fun v227 => (blueprint_table_add__Rows_4 v10 v227 v10 v5).bind fun v228 => (blueprint_table_add__Rows_5 v10 v228 v10 v6).bind fun v229 => iter (fun g : Int × List Row => blueprint_Rows_l0 v7 v10 v8 v9 g.1 g.2) (0, v229))))
theorem blueprint_Rows_ok (v1 : Int) (v2 : Int) (v3 : Int) (v4 : Int) (v5 : List TRange) (v6 : List TRange) (v7 : List Int) (v8 : List Form) (v9 : Int) (v10 : List TItem) (r : List Row × Int) (hx : blueprint_Rows v1 v2 v3 v4 v5 v6 v7 v8 v9 v10 = some r) :
    ACalls Try.prog 40 [.agg [.d (.int .i64 v1), .d (.int .i64 v2), .d (.int .i64 v3), .d (.int .i64 v4), .d (.sl (List.map TRange.D v5)), .d (.sl (List.map TRange.D v6)), .d (.sl (List.map iD v7)), .d (.sl (List.map Form.D v8)), .d (.int .i64 v9)], .d (.sl (List.map TItem.D v10))] [] (.tup [.arr 2000 0 r.1.length, .d (.int .i64 r.2)]) [(2000, some (.arr 32 3 (List.map Row.D r.1)))] := by
  refine ACalls.of_sem (n := 135) 0 [4, 5] (fn := Try.f40) Try.func40 rfl rfl (.two rfl) rfl (by simp) (by intro i; simp only [hget]; (repeat' split) <;> simp <;> omega) ?_
  unfold blueprint_Rows at hx
  refine Walk.seq (Walk.region' rfl fun K hK => ?_)
  simp only [go_sem, seval]
  refine hK _ ?_
  clear hK K
  refine Walk.seq (Walk.seq (Walk.region' rfl fun K hK => ?_))
  obtain ⟨v218, h694, hx⟩ := bind_elim hx
  simp only [go_sem, seval]
  refine VCl.pure rfl (by simp only [go_sem, seval]; try simp) (blueprint_Check_ok v1 v2 v3 v4 v5 v6 v7 v8 v9 _ h694) (by simp only [go_sem, seval]; try simp) (by simp only [go_sem, seval]; try simp) (by simp only [go_sem, seval]; try simp) (by simp only [go_sem, seval]; try simp) (by simp only [go_sem, seval]; try simp) (by simp only [go_sem, seval]; try simp) ?_
  simp only [go_sem, seval]
  refine hK _ ?_
  clear hK K
  refine Walk.block (Walk.seq (Walk.region' rfl fun K hK => ?_))
  simp only [go_sem, seval]
  refine hK _ ?_
  clear hK K
  refine Walk.condO rfl hx (fun c707 hx => ?_) (fun c707 hx => ?_)
  · refine Walk.seq (Walk.region' rfl fun K hK => ?_)
    simp only [go_sem, seval, c707]
    refine hK _ ?_
    clear hK K
    refine Walk.weaken ⟨[(4, .nils), (5, .d (.int .i64 v218))], []⟩ (by simp [c707] <;> omega) (by simp [c707] <;> omega) ?_
    refine Walk.up 2000 32 3 [(4, .arr 2000 0 0), (5, .d (.int .i64 v218))] [] (by simp) (by simp) (by omega) (by simp) (by simp) (by simp) ?_
    obtain rfl := Option.some.inj hx
    exact Walk.ret ⟨by simp [c707], by simp [c707]⟩
  refine Walk.seq (Walk.region' rfl fun K hK => ?_)
  simp only [go_sem, seval, c707]
  refine hK _ ?_
  clear hK K
  refine Walk.condO rfl hx (fun c714 hx => ?_) (fun c714 hx => ?_)
  · refine Walk.seq (Walk.region' rfl fun K hK => ?_)
    simp only [go_sem, seval, c707, c714]
    refine hK _ ?_
    clear hK K
    refine Walk.weaken ⟨[(4, .nils), (5, .d (.int .i64 3))], []⟩ (by simp [c707, c714] <;> omega) (by simp [c707, c714] <;> omega) ?_
    refine Walk.up 2000 32 3 [(4, .arr 2000 0 0), (5, .d (.int .i64 3))] [] (by simp) (by simp) (by omega) (by simp) (by simp) (by simp) ?_
    obtain rfl := Option.some.inj hx
    exact Walk.ret ⟨by simp [c707, c714], by simp [c707, c714]⟩
  refine Walk.seq (Walk.region' rfl fun K hK => ?_)
  obtain ⟨v225, h717, hx⟩ := bind_elim hx
  simp only [go_sem, seval, c707, c714]
  refine VCl.pure rfl (by simp only [go_sem, seval, c707, c714]; try simp) (slices_ContainsFunc_Item__Rows_1_ok v10 _ h717) (by simp only [go_sem, seval, c707, c714]; try simp) (by simp only [go_sem, seval, c707, c714]; try simp) (by simp only [go_sem, seval, c707, c714]; try simp) (by simp only [go_sem, seval, c707, c714]; try simp) (by simp only [go_sem, seval, c707, c714]; try simp) (by simp only [go_sem, seval, c707, c714]; try simp) ?_
  simp only [go_sem, seval, c707, c714]
  refine hK _ ?_
  clear hK K
  refine Walk.condO rfl hx (fun c719 hx => ?_) (fun c719 hx => ?_)
  · refine Walk.seq (Walk.region' rfl fun K hK => ?_)
    simp only [go_sem, seval, c707, c714, c719]
    refine hK _ ?_
    clear hK K
    refine Walk.weaken ⟨[(4, .nils), (5, .d (.int .i64 1))], []⟩ (by simp [c707, c714, c719] <;> omega) (by simp [c707, c714, c719] <;> omega) ?_
    refine Walk.up 2000 32 3 [(4, .arr 2000 0 0), (5, .d (.int .i64 1))] [] (by simp) (by simp) (by omega) (by simp) (by simp) (by simp) ?_
    obtain rfl := Option.some.inj hx
    exact Walk.ret ⟨by simp [c707, c714, c719], by simp [c707, c714, c719]⟩
  refine Walk.skip (Walk.inBlock (Walk.seq (Walk.region' rfl fun K hK => ?_)))
  simp only [go_sem, seval, c707, c714, c719]
  refine hK _ ?_
  clear hK K
  refine Walk.seq (Walk.region' rfl fun K hK => ?_)
  obtain ⟨v226, h720, hx⟩ := bind_elim hx
  have w721 := (((blueprint_table_add__Rows_2_ok v10 [(TRange.mk 0 v1 v2)] _ h720).swap 0 30).swap 2000 1003)
  simp only [renE, renL, AV.ren, AV.rens, AObj.ren, swp, Option.map_some, reduceIte, Nat.reduceEqDiff] at w721
  simp only [go_sem, seval, c707, c714, c719]
  refine VCl.sub [(30, some (.box [.d (.sl (List.map TItem.D v10)), .nils]))] [37] rfl (by simp only [go_sem, seval, AV.viewXs, AV.viewX, avD, c707, c714, c719]; try simp) (w721) (by simp [c707, c714, c719]) (by simp [c707, c714, c719]) (by simp [c707, c714, c719]) (by simp [c707, c714, c719]) (by simp [c707, c714, c719]) (by simp [c707, c714, c719]) (by simp [c707, c714, c719]) (by simp [c707, c714, c719]) (by simp [c707, c714, c719]) (by simp [c707, c714, c719]) ?_
  simp only [go_sem, seval, c707, c714, c719]
  refine hK _ ?_
  clear hK K
  refine Walk.weaken ⟨[(2, .box 2 0), (3, .box 3 0), (7, .box 30 0)], [(2, some (.box [.d (.int .i64 v1), .d (.int .i64 v2), .d (.int .i64 v3), .d (.int .i64 v4), .d (.sl (List.map TRange.D v5)), .d (.sl (List.map TRange.D v6)), .d (.sl (List.map iD v7)), .d (.sl (List.map Form.D v8)), .d (.int .i64 v9)])), (3, some (.box [.d (.sl (List.map TItem.D v10))])), (30, some (.box [.d (.sl (List.map TItem.D v10)), .arr 1003 0 v226.length])), (1003, some (.arr 32 3 (List.map Row.D v226)))]⟩ (by simp [c707, c714, c719] <;> omega) (by simp [c707, c714, c719] <;> omega) ?_
  refine Walk.seq (Walk.region' rfl fun K hK => ?_)
  obtain ⟨v227, h722, hx⟩ := bind_elim hx
  have w723 := ((((blueprint_table_add__Rows_3_ok v10 v226 v10 [(TRange.mk 0 v3 v4)] _ h722).swap 0 30).swap 1 1003).swap 2 3)
  simp only [renE, renL, AV.ren, AV.rens, AObj.ren, swp, Option.map_some, reduceIte, Nat.reduceEqDiff] at w723
  simp only [go_sem, seval, c707, c714, c719]
  refine VCl.sub [(30, some (.box [.d (.sl (List.map TItem.D v10)), .arr 1003 0 v226.length])), (1003, some (.arr 32 3 (List.map Row.D v226))), (3, some (.box [.d (.sl (List.map TItem.D v10))]))] [46] rfl (by simp only [go_sem, seval, AV.viewXs, AV.viewX, avD, c707, c714, c719]; try simp) (w723) (by simp [c707, c714, c719]) (by simp [c707, c714, c719]) (by simp [c707, c714, c719]) (by simp [c707, c714, c719]) (by simp [c707, c714, c719]) (by simp [c707, c714, c719]) (by simp [c707, c714, c719]) (by simp [c707, c714, c719]) (by simp [c707, c714, c719]) (by simp [c707, c714, c719]) ?_
  simp only [go_sem, seval, c707, c714, c719]
  refine hK _ ?_
  clear hK K
  refine Walk.weaken ⟨[(2, .box 2 0), (3, .box 3 0), (7, .box 30 0)], [(2, some (.box [.d (.int .i64 v1), .d (.int .i64 v2), .d (.int .i64 v3), .d (.int .i64 v4), .d (.sl (List.map TRange.D v5)), .d (.sl (List.map TRange.D v6)), .d (.sl (List.map iD v7)), .d (.sl (List.map Form.D v8)), .d (.int .i64 v9)])), (3, some (.box [.d (.sl (List.map TItem.D v10))])), (30, some (.box [.d (.sl (List.map TItem.D v10)), .arr 1003 0 v227.length])), (1003, some (.arr 32 3 (List.map Row.D v227)))]⟩ (by simp [c707, c714, c719] <;> omega) (by simp [c707, c714, c719] <;> omega) ?_
  refine Walk.seq (Walk.region' rfl fun K hK => ?_)
  obtain ⟨v228, h724, hx⟩ := bind_elim hx
  have w725 := ((((blueprint_table_add__Rows_4_ok v10 v227 v10 v5 _ h724).swap 0 30).swap 1 1003).swap 2 3)
  simp only [renE, renL, AV.ren, AV.rens, AObj.ren, swp, Option.map_some, reduceIte, Nat.reduceEqDiff] at w725
  simp only [go_sem, seval, c707, c714, c719]
  refine VCl.sub [(30, some (.box [.d (.sl (List.map TItem.D v10)), .arr 1003 0 v227.length])), (1003, some (.arr 32 3 (List.map Row.D v227))), (3, some (.box [.d (.sl (List.map TItem.D v10))]))] [] rfl (by simp only [go_sem, seval, AV.viewXs, AV.viewX, avD, c707, c714, c719]; try simp) (w725) (by simp [c707, c714, c719]) (by simp [c707, c714, c719]) (by simp [c707, c714, c719]) (by simp [c707, c714, c719]) (by simp [c707, c714, c719]) (by simp [c707, c714, c719]) (by simp [c707, c714, c719]) (by simp [c707, c714, c719]) (by simp [c707, c714, c719]) (by simp [c707, c714, c719]) ?_
  simp only [go_sem, seval, c707, c714, c719]
  refine hK _ ?_
  clear hK K
  refine Walk.weaken ⟨[(2, .box 2 0), (3, .box 3 0), (7, .box 30 0)], [(2, some (.box [.d (.int .i64 v1), .d (.int .i64 v2), .d (.int .i64 v3), .d (.int .i64 v4), .d (.sl (List.map TRange.D v5)), .d (.sl (List.map TRange.D v6)), .d (.sl (List.map iD v7)), .d (.sl (List.map Form.D v8)), .d (.int .i64 v9)])), (3, some (.box [.d (.sl (List.map TItem.D v10))])), (30, some (.box [.d (.sl (List.map TItem.D v10)), .arr 1003 0 v228.length])), (1003, some (.arr 32 3 (List.map Row.D v228)))]⟩ (by simp [c707, c714, c719] <;> omega) (by simp [c707, c714, c719] <;> omega) ?_
  refine Walk.seq (Walk.region' rfl fun K hK => ?_)
  obtain ⟨v229, h726, hx⟩ := bind_elim hx
  have w727 := ((((blueprint_table_add__Rows_5_ok v10 v228 v10 v6 _ h726).swap 0 30).swap 1 1003).swap 2 3)
  simp only [renE, renL, AV.ren, AV.rens, AObj.ren, swp, Option.map_some, reduceIte, Nat.reduceEqDiff] at w727
  simp only [go_sem, seval, c707, c714, c719]
  refine VCl.sub [(30, some (.box [.d (.sl (List.map TItem.D v10)), .arr 1003 0 v228.length])), (1003, some (.arr 32 3 (List.map Row.D v228))), (3, some (.box [.d (.sl (List.map TItem.D v10))]))] [] rfl (by simp only [go_sem, seval, AV.viewXs, AV.viewX, avD, c707, c714, c719]; try simp) (w727) (by simp [c707, c714, c719]) (by simp [c707, c714, c719]) (by simp [c707, c714, c719]) (by simp [c707, c714, c719]) (by simp [c707, c714, c719]) (by simp [c707, c714, c719]) (by simp [c707, c714, c719]) (by simp [c707, c714, c719]) (by simp [c707, c714, c719]) (by simp [c707, c714, c719]) ?_
  simp only [go_sem, seval, c707, c714, c719]
  refine hK _ ?_
  clear hK K
  refine Walk.weaken ⟨[(2, .box 2 0), (3, .box 3 0), (7, .box 30 0)], [(2, some (.box [.d (.int .i64 v1), .d (.int .i64 v2), .d (.int .i64 v3), .d (.int .i64 v4), .d (.sl (List.map TRange.D v5)), .d (.sl (List.map TRange.D v6)), .d (.sl (List.map iD v7)), .d (.sl (List.map Form.D v8)), .d (.int .i64 v9)])), (3, some (.box [.d (.sl (List.map TItem.D v10))])), (30, some (.box [.d (.sl (List.map TItem.D v10)), .arr 1003 0 v229.length])), (1003, some (.arr 32 3 (List.map Row.D v229)))]⟩ (by simp [c707, c714, c719] <;> omega) (by simp [c707, c714, c719] <;> omega) ?_
  refine Walk.seq (Walk.seq (Walk.region' rfl fun K hK => ?_))
  simp only [go_sem, seval, c707, c714, c719]
  refine hK _ ?_
  clear hK K
  refine Walk.block (Walk.loop ?_)
  refine Walk.weaken ⟨[(2, .box 2 0), (3, .box 3 0), (7, .box 30 0), (59, .d (.sl (List.map iD v7))), (60, .d (.int .i64 (v7.length : Int))), (61, .d (.int .i64 0))], [(2, some (.box [.d (.int .i64 v1), .d (.int .i64 v2), .d (.int .i64 v3), .d (.int .i64 v4), .d (.sl (List.map TRange.D v5)), .d (.sl (List.map TRange.D v6)), .d (.sl (List.map iD v7)), .d (.sl (List.map Form.D v8)), .d (.int .i64 v9)])), (3, some (.box [.d (.sl (List.map TItem.D v10))])), (30, some (.box [.d (.sl (List.map TItem.D v10)), .arr 1003 0 v229.length])), (1003, some (.arr 32 3 (List.map Row.D v229)))]⟩ (by simp [c707, c714, c719] <;> omega) (by simp [c707, c714, c719] <;> omega) ?_
  refine Walk.iter (σ := Int × List Row) (fun g => ⟨[(2, .box 2 0), (3, .box 3 0), (7, .box 30 0), (59, .d (.sl (List.map iD v7))), (60, .d (.int .i64 (v7.length : Int))), (61, .d (.int .i64 g.1))], [(2, some (.box [.d (.int .i64 v1), .d (.int .i64 v2), .d (.int .i64 v3), .d (.int .i64 v4), .d (.sl (List.map TRange.D v5)), .d (.sl (List.map TRange.D v6)), .d (.sl (List.map iD v7)), .d (.sl (List.map Form.D v8)), .d (.int .i64 v9)])), (3, some (.box [.d (.sl (List.map TItem.D v10))])), (30, some (.box [.d (.sl (List.map TItem.D v10)), .arr 1003 0 g.2.length])), (1003, some (.arr 32 3 (List.map Row.D g.2)))]⟩) (fun g : Int × List Row => blueprint_Rows_l0 v7 v10 v8 v9 g.1 g.2) _ (fun g y1380 hx ih800 hr801 => ?_) (0, v229) hx
  obtain ⟨v248, v249⟩ := g
  unfold blueprint_Rows_l0 at hx
  try dsimp only at hx ⊢
  refine Walk.seq (Walk.region' rfl fun K hK => ?_)
  simp only [go_sem, seval, c707, c714, c719]
  refine hK _ ?_
  clear hK K
  refine Walk.seq (Walk.condO rfl hx (fun c803 hx => ?_) (fun c803 hx => ?_))
  · refine Walk.skip (Walk.seq (Walk.block (Walk.seq (Walk.region' rfl fun K hK => ?_))))
    obtain ⟨v252, r804, a805, b806, c807, hx⟩ := rd_elim hx
    simp only [go_sem, seval, c707, c714, c719, c803, a805, b806, c807]
    repeat refine And.intro (by first | omega | (simp; done) | (simp; omega)) ?_
    refine hK _ ?_
    clear hK K
    refine Walk.region' rfl fun K hK => ?_
    obtain ⟨v253, h808, hx⟩ := bind_elim hx
    have w809 := ((((blueprint_table_add__Rows_6_ok v10 v249 v10 [(TRange.mk v252 1 1)] _ h808).swap 0 30).swap 1 1003).swap 2 3)
    simp only [renE, renL, AV.ren, AV.rens, AObj.ren, swp, Option.map_some, reduceIte, Nat.reduceEqDiff] at w809
    simp only [go_sem, seval, c707, c714, c719, c803, a805, b806, c807]
    refine VCl.sub [(30, some (.box [.d (.sl (List.map TItem.D v10)), .arr 1003 0 v249.length])), (1003, some (.arr 32 3 (List.map Row.D v249))), (3, some (.box [.d (.sl (List.map TItem.D v10))]))] [69] rfl (by simp only [go_sem, seval, AV.viewXs, AV.viewX, avD, c707, c714, c719, c803, a805, b806, c807]; try simp) (w809) (by simp [c707, c714, c719, c803, a805, b806, c807]) (by simp [c707, c714, c719, c803, a805, b806, c807]) (by simp [c707, c714, c719, c803, a805, b806, c807]) (by simp [c707, c714, c719, c803, a805, b806, c807]) (by simp [c707, c714, c719, c803, a805, b806, c807]) (by simp [c707, c714, c719, c803, a805, b806, c807]) (by simp [c707, c714, c719, c803, a805, b806, c807]) (by simp [c707, c714, c719, c803, a805, b806, c807]) (by simp [c707, c714, c719, c803, a805, b806, c807]) (by simp [c707, c714, c719, c803, a805, b806, c807]) ?_
    simp only [go_sem, seval, c707, c714, c719, c803, a805, b806, c807]
    refine hK _ ?_
    clear hK K
    refine Walk.weaken ⟨[(2, .box 2 0), (3, .box 3 0), (7, .box 30 0), (59, .d (.sl (List.map iD v7))), (60, .d (.int .i64 (v7.length : Int))), (61, .d (.int .i64 v248))], [(2, some (.box [.d (.int .i64 v1), .d (.int .i64 v2), .d (.int .i64 v3), .d (.int .i64 v4), .d (.sl (List.map TRange.D v5)), .d (.sl (List.map TRange.D v6)), .d (.sl (List.map iD v7)), .d (.sl (List.map Form.D v8)), .d (.int .i64 v9)])), (3, some (.box [.d (.sl (List.map TItem.D v10))])), (30, some (.box [.d (.sl (List.map TItem.D v10)), .arr 1003 0 v253.length])), (1003, some (.arr 32 3 (List.map Row.D v253)))]⟩ (by simp [c707, c714, c719, c803, a805, b806, c807] <;> omega) (by simp [c707, c714, c719, c803, a805, b806, c807] <;> omega) ?_
    refine Walk.inBlock (Walk.region' rfl fun K hK => ?_)
    simp only [go_sem, seval, c707, c714, c719, c803, a805, b806, c807]
    refine hK _ ?_
    clear hK K
    exact Walk.weaken _ (by simp [c707, c714, c719, c803, a805, b806, c807] <;> omega) (by simp [c707, c714, c719, c803, a805, b806, c807] <;> omega) (ih800 _ (cont_elim hx))
  refine Walk.exit rfl ?_
  obtain ⟨z810, e811, hx⟩ := exit_elim hx
  rw [hr801 z810 e811] at hx
  refine Walk.seq (Walk.seq (Walk.region' rfl fun K hK => ?_))
  simp only [go_sem, seval, c707, c714, c719, c803]
  refine hK _ ?_
  clear hK K
  refine Walk.block (Walk.loop ?_)
  refine Walk.weaken ⟨[(2, .box 2 0), (3, .box 3 0), (7, .box 30 0), (72, .d (.sl (List.map TItem.D v10))), (73, .d (.int .i64 (v10.length : Int))), (74, .d (.int .i64 0))], [(2, some (.box [.d (.int .i64 v1), .d (.int .i64 v2), .d (.int .i64 v3), .d (.int .i64 v4), .d (.sl (List.map TRange.D v5)), .d (.sl (List.map TRange.D v6)), .d (.sl (List.map iD v7)), .d (.sl (List.map Form.D v8)), .d (.int .i64 v9)])), (3, some (.box [.d (.sl (List.map TItem.D v10))])), (30, some (.box [.d (.sl (List.map TItem.D v10)), .arr 1003 0 v249.length])), (1003, some (.arr 32 3 (List.map Row.D v249)))]⟩ (by simp [c707, c714, c719, c803] <;> omega) (by simp [c707, c714, c719, c803] <;> omega) ?_
  refine Walk.iter (σ := Int × List Row) (fun g => ⟨[(2, .box 2 0), (3, .box 3 0), (7, .box 30 0), (72, .d (.sl (List.map TItem.D v10))), (73, .d (.int .i64 (v10.length : Int))), (74, .d (.int .i64 g.1))], [(2, some (.box [.d (.int .i64 v1), .d (.int .i64 v2), .d (.int .i64 v3), .d (.int .i64 v4), .d (.sl (List.map TRange.D v5)), .d (.sl (List.map TRange.D v6)), .d (.sl (List.map iD v7)), .d (.sl (List.map Form.D v8)), .d (.int .i64 v9)])), (3, some (.box [.d (.sl (List.map TItem.D v10))])), (30, some (.box [.d (.sl (List.map TItem.D v10)), .arr 1003 0 g.2.length])), (1003, some (.arr 32 3 (List.map Row.D g.2)))]⟩) (fun g : Int × List Row => blueprint_Rows_l1 v10 v8 v9 g.1 g.2) _ (fun g y1379 hx ih1236 hr1237 => ?_) (0, v249) hx
  obtain ⟨v363, v364⟩ := g
  unfold blueprint_Rows_l1 at hx
  try dsimp only at hx ⊢
  refine Walk.seq (Walk.region' rfl fun K hK => ?_)
  simp only [go_sem, seval, c707, c714, c719, c803]
  refine hK _ ?_
  clear hK K
  refine Walk.seq (Walk.condO rfl hx (fun c1239 hx => ?_) (fun c1239 hx => ?_))
  · refine Walk.skip (Walk.seq (Walk.block (Walk.seq (Walk.region' rfl fun K hK => ?_))))
    obtain ⟨v380, r1240, a1241, b1242, c1243, hx⟩ := rd_elim hx
    simp only [go_sem, seval, c707, c714, c719, c803, c1239, a1241, b1242, c1243]
    repeat refine And.intro (by first | omega | (simp; done) | (simp; omega)) ?_
    refine hK _ ?_
    clear hK K
    refine Walk.seq (Walk.region' rfl fun K hK => ?_)
    simp only [go_sem, seval, c707, c714, c719, c803, c1239, a1241, b1242, c1243]
    refine hK _ ?_
    clear hK K
    refine Walk.block (Walk.loop ?_)
    refine Walk.weaken ⟨[(2, .box 2 0), (3, .box 3 0), (7, .box 30 0), (10, .box 10 0), (11, .box 11 0), (12, .box 12 0), (72, .d (.sl (List.map TItem.D v10))), (73, .d (.int .i64 (v10.length : Int))), (74, .d (.int .i64 v363))], [(2, some (.box [.d (.int .i64 v1), .d (.int .i64 v2), .d (.int .i64 v3), .d (.int .i64 v4), .d (.sl (List.map TRange.D v5)), .d (.sl (List.map TRange.D v6)), .d (.sl (List.map iD v7)), .d (.sl (List.map Form.D v8)), .d (.int .i64 v9)])), (3, some (.box [.d (.sl (List.map TItem.D v10))])), (10, some (.box [.d (.int .i64 v363)])), (11, some (.box [.d (.int .i64 v380.ID), .d (.int .i64 v380.Version), .d (.str v380.Stem), .d (.sl (List.map Part.D v380.Parts)), .d (.sl (List.map iD v380.Enemies))])), (12, some (.box [.d (.int .i64 ((IntKind.i64.wrap (v363 + 1))))])), (30, some (.box [.d (.sl (List.map TItem.D v10)), .arr 1003 0 v364.length])), (1003, some (.arr 32 3 (List.map Row.D v364)))]⟩ (by simp [c707, c714, c719, c803, c1239, a1241, b1242, c1243] <;> omega) (by simp [c707, c714, c719, c803, c1239, a1241, b1242, c1243] <;> omega) ?_
    refine Walk.iter (σ := Int × List Row) (fun g => ⟨[(2, .box 2 0), (3, .box 3 0), (7, .box 30 0), (10, .box 10 0), (11, .box 11 0), (12, .box 12 0), (72, .d (.sl (List.map TItem.D v10))), (73, .d (.int .i64 (v10.length : Int))), (74, .d (.int .i64 v363))], [(2, some (.box [.d (.int .i64 v1), .d (.int .i64 v2), .d (.int .i64 v3), .d (.int .i64 v4), .d (.sl (List.map TRange.D v5)), .d (.sl (List.map TRange.D v6)), .d (.sl (List.map iD v7)), .d (.sl (List.map Form.D v8)), .d (.int .i64 v9)])), (3, some (.box [.d (.sl (List.map TItem.D v10))])), (10, some (.box [.d (.int .i64 v363)])), (11, some (.box [.d (.int .i64 v380.ID), .d (.int .i64 v380.Version), .d (.str v380.Stem), .d (.sl (List.map Part.D v380.Parts)), .d (.sl (List.map iD v380.Enemies))])), (12, some (.box [.d (.int .i64 g.1)])), (30, some (.box [.d (.sl (List.map TItem.D v10)), .arr 1003 0 g.2.length])), (1003, some (.arr 32 3 (List.map Row.D g.2)))]⟩) (fun g : Int × List Row => blueprint_Rows_l2 v10 v380 v363 g.1 g.2) _ (fun g y1290 hx ih1272 hr1273 => ?_) (IntKind.i64.wrap (v363 + 1), v364) hx
    obtain ⟨v385, v386⟩ := g
    unfold blueprint_Rows_l2 at hx
    try dsimp only at hx ⊢
    refine Walk.seq (Walk.seq (Walk.region' rfl fun K hK => ?_))
    simp only [go_sem, seval, c707, c714, c719, c803, c1239, a1241, b1242, c1243]
    refine hK _ ?_
    clear hK K
    refine Walk.condO rfl hx (fun c1276 hx => ?_) (fun c1276 hx => ?_)
    · refine Walk.skip (Walk.seq (Walk.block (Walk.seq (Walk.drawn' rfl mixed fun K hK => ?_))))
      obtain ⟨v391, r1277, a1278, b1279, c1280, hx⟩ := rd_elim hx
      simp only [go_sem, seval, c707, c714, c719, c803, c1239, a1241, b1242, c1243, c1276, a1278, b1279, c1280]
      repeat refine And.intro (by first | omega | (simp; done) | (simp; omega)) ?_
      refine VGdO hx (fun g1281 hx => ?_) (fun g1281 hx => ?_)
      · simp only [go_sem, seval, c707, c714, c719, c803, c1239, a1241, b1242, c1243, c1276, a1278, b1279, c1280, g1281]
        refine hK _ _ (by kernel_rfl) (by simp [c707, c714, c719, c803, c1239, a1241, b1242, c1243, c1276, a1278, b1279, c1280, g1281]) ?_
        clear hK K
        refine Walk.condT rfl (Walk.region' rfl fun K hK => ?_)
        obtain ⟨v392, h1282, hx⟩ := bind_elim hx
        have w1283 := (((((blueprint_table_add__Rows_7_ok v10 v386 v363 v385 [(TRange.mk 0 0 1)] _ h1282).swap 0 30).swap 1 1003).swap 2 10).swap 3 12)
        simp only [renE, renL, AV.ren, AV.rens, AObj.ren, swp, Option.map_some, reduceIte, Nat.reduceEqDiff] at w1283
        simp only [go_sem, seval, c707, c714, c719, c803, c1239, a1241, b1242, c1243, c1276, a1278, b1279, c1280, g1281]
        refine VCl.sub [(30, some (.box [.d (.sl (List.map TItem.D v10)), .arr 1003 0 v386.length])), (1003, some (.arr 32 3 (List.map Row.D v386))), (10, some (.box [.d (.int .i64 v363)])), (12, some (.box [.d (.int .i64 v385)]))] [106] rfl (by simp only [go_sem, seval, AV.viewXs, AV.viewX, avD, c707, c714, c719, c803, c1239, a1241, b1242, c1243, c1276, a1278, b1279, c1280, g1281]; try simp) (w1283) (by simp [c707, c714, c719, c803, c1239, a1241, b1242, c1243, c1276, a1278, b1279, c1280, g1281]) (by simp [c707, c714, c719, c803, c1239, a1241, b1242, c1243, c1276, a1278, b1279, c1280, g1281]) (by simp [c707, c714, c719, c803, c1239, a1241, b1242, c1243, c1276, a1278, b1279, c1280, g1281]) (by simp [c707, c714, c719, c803, c1239, a1241, b1242, c1243, c1276, a1278, b1279, c1280, g1281]) (by simp [c707, c714, c719, c803, c1239, a1241, b1242, c1243, c1276, a1278, b1279, c1280, g1281]) (by simp [c707, c714, c719, c803, c1239, a1241, b1242, c1243, c1276, a1278, b1279, c1280, g1281]) (by simp [c707, c714, c719, c803, c1239, a1241, b1242, c1243, c1276, a1278, b1279, c1280, g1281]) (by simp [c707, c714, c719, c803, c1239, a1241, b1242, c1243, c1276, a1278, b1279, c1280, g1281]) (by simp [c707, c714, c719, c803, c1239, a1241, b1242, c1243, c1276, a1278, b1279, c1280, g1281]) (by simp [c707, c714, c719, c803, c1239, a1241, b1242, c1243, c1276, a1278, b1279, c1280, g1281]) ?_
        simp only [go_sem, seval, c707, c714, c719, c803, c1239, a1241, b1242, c1243, c1276, a1278, b1279, c1280, g1281]
        refine hK _ ?_
        clear hK K
        refine Walk.weaken ⟨[(2, .box 2 0), (3, .box 3 0), (7, .box 30 0), (10, .box 10 0), (11, .box 11 0), (12, .box 12 0), (72, .d (.sl (List.map TItem.D v10))), (73, .d (.int .i64 (v10.length : Int))), (74, .d (.int .i64 v363))], [(2, some (.box [.d (.int .i64 v1), .d (.int .i64 v2), .d (.int .i64 v3), .d (.int .i64 v4), .d (.sl (List.map TRange.D v5)), .d (.sl (List.map TRange.D v6)), .d (.sl (List.map iD v7)), .d (.sl (List.map Form.D v8)), .d (.int .i64 v9)])), (3, some (.box [.d (.sl (List.map TItem.D v10))])), (10, some (.box [.d (.int .i64 v363)])), (11, some (.box [.d (.int .i64 v380.ID), .d (.int .i64 v380.Version), .d (.str v380.Stem), .d (.sl (List.map Part.D v380.Parts)), .d (.sl (List.map iD v380.Enemies))])), (12, some (.box [.d (.int .i64 v385)])), (30, some (.box [.d (.sl (List.map TItem.D v10)), .arr 1003 0 v392.length])), (1003, some (.arr 32 3 (List.map Row.D v392)))]⟩ (by simp [c707, c714, c719, c803, c1239, a1241, b1242, c1243, c1276, a1278, b1279, c1280, g1281] <;> omega) (by simp [c707, c714, c719, c803, c1239, a1241, b1242, c1243, c1276, a1278, b1279, c1280, g1281] <;> omega) ?_
        refine Walk.inBlock (Walk.seq (Walk.seq (Walk.region' rfl fun K hK => ?_)))
        simp only [go_sem, seval, c707, c714, c719, c803, c1239, a1241, b1242, c1243, c1276, a1278, b1279, c1280, g1281]
        refine hK _ ?_
        clear hK K
        refine Walk.weaken ⟨[(2, .box 2 0), (3, .box 3 0), (7, .box 30 0), (10, .box 10 0), (11, .box 11 0), (72, .d (.sl (List.map TItem.D v10))), (73, .d (.int .i64 (v10.length : Int))), (74, .d (.int .i64 v363)), (108, .d (.int .i64 v385))], [(2, some (.box [.d (.int .i64 v1), .d (.int .i64 v2), .d (.int .i64 v3), .d (.int .i64 v4), .d (.sl (List.map TRange.D v5)), .d (.sl (List.map TRange.D v6)), .d (.sl (List.map iD v7)), .d (.sl (List.map Form.D v8)), .d (.int .i64 v9)])), (3, some (.box [.d (.sl (List.map TItem.D v10))])), (10, some (.box [.d (.int .i64 v363)])), (11, some (.box [.d (.int .i64 v380.ID), .d (.int .i64 v380.Version), .d (.str v380.Stem), .d (.sl (List.map Part.D v380.Parts)), .d (.sl (List.map iD v380.Enemies))])), (30, some (.box [.d (.sl (List.map TItem.D v10)), .arr 1003 0 v392.length])), (1003, some (.arr 32 3 (List.map Row.D v392)))]⟩ (by simp [c707, c714, c719, c803, c1239, a1241, b1242, c1243, c1276, a1278, b1279, c1280, g1281] <;> omega) (by simp [c707, c714, c719, c803, c1239, a1241, b1242, c1243, c1276, a1278, b1279, c1280, g1281] <;> omega) ?_
        refine Walk.region' rfl fun K hK => ?_
        simp only [go_sem, seval, c707, c714, c719, c803, c1239, a1241, b1242, c1243, c1276, a1278, b1279, c1280, g1281]
        refine hK _ ?_
        clear hK K
        refine Walk.region' rfl fun K hK => ?_
        simp only [go_sem, seval, c707, c714, c719, c803, c1239, a1241, b1242, c1243, c1276, a1278, b1279, c1280, g1281]
        refine hK _ ?_
        clear hK K
        exact Walk.weaken _ (by simp [c707, c714, c719, c803, c1239, a1241, b1242, c1243, c1276, a1278, b1279, c1280, g1281] <;> omega) (by simp [c707, c714, c719, c803, c1239, a1241, b1242, c1243, c1276, a1278, b1279, c1280, g1281] <;> omega) (ih1272 _ (cont_elim hx))
      obtain ⟨v393, h1284, hx⟩ := bind_elim hx
      simp only [go_sem, seval, c707, c714, c719, c803, c1239, a1241, b1242, c1243, c1276, a1278, b1279, c1280, g1281]
      repeat refine And.intro (by first | omega | (simp; done) | (simp; omega)) ?_
      refine VCl.pure rfl (by simp only [go_sem, seval, c707, c714, c719, c803, c1239, a1241, b1242, c1243, c1276, a1278, b1279, c1280, g1281]; try simp) (item_Enemy_ok v380.ID v380.Version v380.Stem v380.Parts v380.Enemies v391.ID v391.Version v391.Stem v391.Parts v391.Enemies _ h1284) (by simp only [go_sem, seval, c707, c714, c719, c803, c1239, a1241, b1242, c1243, c1276, a1278, b1279, c1280, g1281]; try simp) (by simp only [go_sem, seval, c707, c714, c719, c803, c1239, a1241, b1242, c1243, c1276, a1278, b1279, c1280, g1281]; try simp) (by simp only [go_sem, seval, c707, c714, c719, c803, c1239, a1241, b1242, c1243, c1276, a1278, b1279, c1280, g1281]; try simp) (by simp only [go_sem, seval, c707, c714, c719, c803, c1239, a1241, b1242, c1243, c1276, a1278, b1279, c1280, g1281]; try simp) (by simp only [go_sem, seval, c707, c714, c719, c803, c1239, a1241, b1242, c1243, c1276, a1278, b1279, c1280, g1281]; try simp) (by simp only [go_sem, seval, c707, c714, c719, c803, c1239, a1241, b1242, c1243, c1276, a1278, b1279, c1280, g1281]; try simp) ?_
      simp only [go_sem, seval, c707, c714, c719, c803, c1239, a1241, b1242, c1243, c1276, a1278, b1279, c1280, g1281]
      refine hK _ _ (by kernel_rfl) (by simp [c707, c714, c719, c803, c1239, a1241, b1242, c1243, c1276, a1278, b1279, c1280, g1281]) ?_
      clear hK K
      refine Walk.condO rfl hx (fun c1285 hx => ?_) (fun c1285 hx => ?_)
      · refine Walk.region' rfl fun K hK => ?_
        obtain ⟨v394, h1286, hx⟩ := bind_elim hx
        have w1287 := (((((blueprint_table_add__Rows_7_ok v10 v386 v363 v385 [(TRange.mk 0 0 1)] _ h1286).swap 0 30).swap 1 1003).swap 2 10).swap 3 12)
        simp only [renE, renL, AV.ren, AV.rens, AObj.ren, swp, Option.map_some, reduceIte, Nat.reduceEqDiff] at w1287
        simp only [go_sem, seval, c707, c714, c719, c803, c1239, a1241, b1242, c1243, c1276, a1278, b1279, c1280, g1281, c1285]
        refine VCl.sub [(30, some (.box [.d (.sl (List.map TItem.D v10)), .arr 1003 0 v386.length])), (1003, some (.arr 32 3 (List.map Row.D v386))), (10, some (.box [.d (.int .i64 v363)])), (12, some (.box [.d (.int .i64 v385)]))] [106] rfl (by simp only [go_sem, seval, AV.viewXs, AV.viewX, avD, c707, c714, c719, c803, c1239, a1241, b1242, c1243, c1276, a1278, b1279, c1280, g1281, c1285]; try simp) (w1287) (by simp [c707, c714, c719, c803, c1239, a1241, b1242, c1243, c1276, a1278, b1279, c1280, g1281, c1285]) (by simp [c707, c714, c719, c803, c1239, a1241, b1242, c1243, c1276, a1278, b1279, c1280, g1281, c1285]) (by simp [c707, c714, c719, c803, c1239, a1241, b1242, c1243, c1276, a1278, b1279, c1280, g1281, c1285]) (by simp [c707, c714, c719, c803, c1239, a1241, b1242, c1243, c1276, a1278, b1279, c1280, g1281, c1285]) (by simp [c707, c714, c719, c803, c1239, a1241, b1242, c1243, c1276, a1278, b1279, c1280, g1281, c1285]) (by simp [c707, c714, c719, c803, c1239, a1241, b1242, c1243, c1276, a1278, b1279, c1280, g1281, c1285]) (by simp [c707, c714, c719, c803, c1239, a1241, b1242, c1243, c1276, a1278, b1279, c1280, g1281, c1285]) (by simp [c707, c714, c719, c803, c1239, a1241, b1242, c1243, c1276, a1278, b1279, c1280, g1281, c1285]) (by simp [c707, c714, c719, c803, c1239, a1241, b1242, c1243, c1276, a1278, b1279, c1280, g1281, c1285]) (by simp [c707, c714, c719, c803, c1239, a1241, b1242, c1243, c1276, a1278, b1279, c1280, g1281, c1285]) ?_
        simp only [go_sem, seval, c707, c714, c719, c803, c1239, a1241, b1242, c1243, c1276, a1278, b1279, c1280, g1281, c1285]
        refine hK _ ?_
        clear hK K
        refine Walk.weaken ⟨[(2, .box 2 0), (3, .box 3 0), (7, .box 30 0), (10, .box 10 0), (11, .box 11 0), (12, .box 12 0), (72, .d (.sl (List.map TItem.D v10))), (73, .d (.int .i64 (v10.length : Int))), (74, .d (.int .i64 v363))], [(2, some (.box [.d (.int .i64 v1), .d (.int .i64 v2), .d (.int .i64 v3), .d (.int .i64 v4), .d (.sl (List.map TRange.D v5)), .d (.sl (List.map TRange.D v6)), .d (.sl (List.map iD v7)), .d (.sl (List.map Form.D v8)), .d (.int .i64 v9)])), (3, some (.box [.d (.sl (List.map TItem.D v10))])), (10, some (.box [.d (.int .i64 v363)])), (11, some (.box [.d (.int .i64 v380.ID), .d (.int .i64 v380.Version), .d (.str v380.Stem), .d (.sl (List.map Part.D v380.Parts)), .d (.sl (List.map iD v380.Enemies))])), (12, some (.box [.d (.int .i64 v385)])), (30, some (.box [.d (.sl (List.map TItem.D v10)), .arr 1003 0 v394.length])), (1003, some (.arr 32 3 (List.map Row.D v394)))]⟩ (by simp [c707, c714, c719, c803, c1239, a1241, b1242, c1243, c1276, a1278, b1279, c1280, g1281, c1285] <;> omega) (by simp [c707, c714, c719, c803, c1239, a1241, b1242, c1243, c1276, a1278, b1279, c1280, g1281, c1285] <;> omega) ?_
        refine Walk.inBlock (Walk.seq (Walk.seq (Walk.region' rfl fun K hK => ?_)))
        simp only [go_sem, seval, c707, c714, c719, c803, c1239, a1241, b1242, c1243, c1276, a1278, b1279, c1280, g1281, c1285]
        refine hK _ ?_
        clear hK K
        refine Walk.weaken ⟨[(2, .box 2 0), (3, .box 3 0), (7, .box 30 0), (10, .box 10 0), (11, .box 11 0), (72, .d (.sl (List.map TItem.D v10))), (73, .d (.int .i64 (v10.length : Int))), (74, .d (.int .i64 v363)), (108, .d (.int .i64 v385))], [(2, some (.box [.d (.int .i64 v1), .d (.int .i64 v2), .d (.int .i64 v3), .d (.int .i64 v4), .d (.sl (List.map TRange.D v5)), .d (.sl (List.map TRange.D v6)), .d (.sl (List.map iD v7)), .d (.sl (List.map Form.D v8)), .d (.int .i64 v9)])), (3, some (.box [.d (.sl (List.map TItem.D v10))])), (10, some (.box [.d (.int .i64 v363)])), (11, some (.box [.d (.int .i64 v380.ID), .d (.int .i64 v380.Version), .d (.str v380.Stem), .d (.sl (List.map Part.D v380.Parts)), .d (.sl (List.map iD v380.Enemies))])), (30, some (.box [.d (.sl (List.map TItem.D v10)), .arr 1003 0 v394.length])), (1003, some (.arr 32 3 (List.map Row.D v394)))]⟩ (by simp [c707, c714, c719, c803, c1239, a1241, b1242, c1243, c1276, a1278, b1279, c1280, g1281, c1285] <;> omega) (by simp [c707, c714, c719, c803, c1239, a1241, b1242, c1243, c1276, a1278, b1279, c1280, g1281, c1285] <;> omega) ?_
        refine Walk.region' rfl fun K hK => ?_
        simp only [go_sem, seval, c707, c714, c719, c803, c1239, a1241, b1242, c1243, c1276, a1278, b1279, c1280, g1281, c1285]
        refine hK _ ?_
        clear hK K
        refine Walk.region' rfl fun K hK => ?_
        simp only [go_sem, seval, c707, c714, c719, c803, c1239, a1241, b1242, c1243, c1276, a1278, b1279, c1280, g1281, c1285]
        refine hK _ ?_
        clear hK K
        exact Walk.weaken _ (by simp [c707, c714, c719, c803, c1239, a1241, b1242, c1243, c1276, a1278, b1279, c1280, g1281, c1285] <;> omega) (by simp [c707, c714, c719, c803, c1239, a1241, b1242, c1243, c1276, a1278, b1279, c1280, g1281, c1285] <;> omega) (ih1272 _ (cont_elim hx))
      refine Walk.skip (Walk.inBlock (Walk.seq (Walk.seq (Walk.region' rfl fun K hK => ?_))))
      simp only [go_sem, seval, c707, c714, c719, c803, c1239, a1241, b1242, c1243, c1276, a1278, b1279, c1280, g1281, c1285]
      refine hK _ ?_
      clear hK K
      refine Walk.weaken ⟨[(2, .box 2 0), (3, .box 3 0), (7, .box 30 0), (10, .box 10 0), (11, .box 11 0), (72, .d (.sl (List.map TItem.D v10))), (73, .d (.int .i64 (v10.length : Int))), (74, .d (.int .i64 v363)), (108, .d (.int .i64 v385))], [(2, some (.box [.d (.int .i64 v1), .d (.int .i64 v2), .d (.int .i64 v3), .d (.int .i64 v4), .d (.sl (List.map TRange.D v5)), .d (.sl (List.map TRange.D v6)), .d (.sl (List.map iD v7)), .d (.sl (List.map Form.D v8)), .d (.int .i64 v9)])), (3, some (.box [.d (.sl (List.map TItem.D v10))])), (10, some (.box [.d (.int .i64 v363)])), (11, some (.box [.d (.int .i64 v380.ID), .d (.int .i64 v380.Version), .d (.str v380.Stem), .d (.sl (List.map Part.D v380.Parts)), .d (.sl (List.map iD v380.Enemies))])), (30, some (.box [.d (.sl (List.map TItem.D v10)), .arr 1003 0 v386.length])), (1003, some (.arr 32 3 (List.map Row.D v386)))]⟩ (by simp [c707, c714, c719, c803, c1239, a1241, b1242, c1243, c1276, a1278, b1279, c1280, g1281, c1285] <;> omega) (by simp [c707, c714, c719, c803, c1239, a1241, b1242, c1243, c1276, a1278, b1279, c1280, g1281, c1285] <;> omega) ?_
      refine Walk.region' rfl fun K hK => ?_
      simp only [go_sem, seval, c707, c714, c719, c803, c1239, a1241, b1242, c1243, c1276, a1278, b1279, c1280, g1281, c1285]
      refine hK _ ?_
      clear hK K
      refine Walk.region' rfl fun K hK => ?_
      simp only [go_sem, seval, c707, c714, c719, c803, c1239, a1241, b1242, c1243, c1276, a1278, b1279, c1280, g1281, c1285]
      refine hK _ ?_
      clear hK K
      exact Walk.weaken _ (by simp [c707, c714, c719, c803, c1239, a1241, b1242, c1243, c1276, a1278, b1279, c1280, g1281, c1285] <;> omega) (by simp [c707, c714, c719, c803, c1239, a1241, b1242, c1243, c1276, a1278, b1279, c1280, g1281, c1285] <;> omega) (ih1272 _ (cont_elim hx))
    refine Walk.exit rfl ?_
    obtain ⟨z1288, e1289, hx⟩ := exit_elim hx
    rw [hr1273 z1288 e1289] at hx
    refine Walk.inBlock (Walk.region' rfl fun K hK => ?_)
    simp only [go_sem, seval, c707, c714, c719, c803, c1239, a1241, b1242, c1243, c1276]
    refine hK _ ?_
    clear hK K
    exact Walk.weaken _ (by simp [c707, c714, c719, c803, c1239, a1241, b1242, c1243, c1276] <;> omega) (by simp [c707, c714, c719, c803, c1239, a1241, b1242, c1243, c1276] <;> omega) (ih1236 _ (cont_elim hx))
  refine Walk.exit rfl ?_
  obtain ⟨z1291, e1292, hx⟩ := exit_elim hx
  rw [hr1237 z1291 e1292] at hx
  refine Walk.seq (Walk.seq (Walk.region' rfl fun K hK => ?_))
  simp only [go_sem, seval, c707, c714, c719, c803, c1239]
  refine hK _ ?_
  clear hK K
  refine Walk.block (Walk.loop ?_)
  refine Walk.weaken ⟨[(2, .box 2 0), (3, .box 3 0), (7, .box 30 0), (111, .d (.sl (List.map Form.D v8))), (112, .d (.int .i64 (v8.length : Int))), (113, .d (.int .i64 0))], [(2, some (.box [.d (.int .i64 v1), .d (.int .i64 v2), .d (.int .i64 v3), .d (.int .i64 v4), .d (.sl (List.map TRange.D v5)), .d (.sl (List.map TRange.D v6)), .d (.sl (List.map iD v7)), .d (.sl (List.map Form.D v8)), .d (.int .i64 v9)])), (3, some (.box [.d (.sl (List.map TItem.D v10))])), (30, some (.box [.d (.sl (List.map TItem.D v10)), .arr 1003 0 v364.length])), (1003, some (.arr 32 3 (List.map Row.D v364)))]⟩ (by simp [c707, c714, c719, c803, c1239] <;> omega) (by simp [c707, c714, c719, c803, c1239] <;> omega) ?_
  refine Walk.iter (σ := Int × List Row) (fun g => ⟨[(2, .box 2 0), (3, .box 3 0), (7, .box 30 0), (111, .d (.sl (List.map Form.D v8))), (112, .d (.int .i64 (v8.length : Int))), (113, .d (.int .i64 g.1))], [(2, some (.box [.d (.int .i64 v1), .d (.int .i64 v2), .d (.int .i64 v3), .d (.int .i64 v4), .d (.sl (List.map TRange.D v5)), .d (.sl (List.map TRange.D v6)), .d (.sl (List.map iD v7)), .d (.sl (List.map Form.D v8)), .d (.int .i64 v9)])), (3, some (.box [.d (.sl (List.map TItem.D v10))])), (30, some (.box [.d (.sl (List.map TItem.D v10)), .arr 1003 0 g.2.length])), (1003, some (.arr 32 3 (List.map Row.D g.2)))]⟩) (fun g : Int × List Row => blueprint_Rows_l3 v8 v10 v9 g.1 g.2) _ (fun g y1378 hx ih1365 hr1366 => ?_) (0, v364) hx
  obtain ⟨v413, v414⟩ := g
  unfold blueprint_Rows_l3 at hx
  try dsimp only at hx ⊢
  refine Walk.seq (Walk.region' rfl fun K hK => ?_)
  simp only [go_sem, seval, c707, c714, c719, c803, c1239]
  refine hK _ ?_
  clear hK K
  refine Walk.seq (Walk.condO rfl hx (fun c1368 hx => ?_) (fun c1368 hx => ?_))
  · refine Walk.skip (Walk.seq (Walk.block (Walk.seq (Walk.region' rfl fun K hK => ?_))))
    obtain ⟨v417, r1369, a1370, b1371, c1372, hx⟩ := rd_elim hx
    simp only [go_sem, seval, c707, c714, c719, c803, c1239, c1368, a1370, b1371, c1372]
    repeat refine And.intro (by first | omega | (simp; done) | (simp; omega)) ?_
    refine hK _ ?_
    clear hK K
    refine Walk.region' rfl fun K hK => ?_
    obtain ⟨v418, h1373, hx⟩ := bind_elim hx
    have w1374 := ((((blueprint_table_add__Rows_8_ok v10 v414 v417.Code v417.Items v10 [(TRange.mk 0 0 v9)] _ h1373).swap 0 30).swap 1 1003).swap 2 14)
    simp only [renE, renL, AV.ren, AV.rens, AObj.ren, swp, Option.map_some, reduceIte, Nat.reduceEqDiff] at w1374
    simp only [go_sem, seval, c707, c714, c719, c803, c1239, c1368, a1370, b1371, c1372]
    refine VCl.sub [(30, some (.box [.d (.sl (List.map TItem.D v10)), .arr 1003 0 v414.length])), (1003, some (.arr 32 3 (List.map Row.D v414))), (14, some (.box [.d (.int .i64 v417.Code), .d (.sl (List.map Ref.D v417.Items))])), (3, some (.box [.d (.sl (List.map TItem.D v10))]))] [122] rfl (by simp only [go_sem, seval, AV.viewXs, AV.viewX, avD, c707, c714, c719, c803, c1239, c1368, a1370, b1371, c1372]; try simp) (w1374) (by simp [c707, c714, c719, c803, c1239, c1368, a1370, b1371, c1372]) (by simp [c707, c714, c719, c803, c1239, c1368, a1370, b1371, c1372]) (by simp [c707, c714, c719, c803, c1239, c1368, a1370, b1371, c1372]) (by simp [c707, c714, c719, c803, c1239, c1368, a1370, b1371, c1372]) (by simp [c707, c714, c719, c803, c1239, c1368, a1370, b1371, c1372]) (by simp [c707, c714, c719, c803, c1239, c1368, a1370, b1371, c1372]) (by simp [c707, c714, c719, c803, c1239, c1368, a1370, b1371, c1372]) (by simp [c707, c714, c719, c803, c1239, c1368, a1370, b1371, c1372]) (by simp [c707, c714, c719, c803, c1239, c1368, a1370, b1371, c1372]) (by simp [c707, c714, c719, c803, c1239, c1368, a1370, b1371, c1372]) ?_
    simp only [go_sem, seval, c707, c714, c719, c803, c1239, c1368, a1370, b1371, c1372]
    refine hK _ ?_
    clear hK K
    refine Walk.weaken ⟨[(2, .box 2 0), (3, .box 3 0), (7, .box 30 0), (111, .d (.sl (List.map Form.D v8))), (112, .d (.int .i64 (v8.length : Int))), (113, .d (.int .i64 v413))], [(2, some (.box [.d (.int .i64 v1), .d (.int .i64 v2), .d (.int .i64 v3), .d (.int .i64 v4), .d (.sl (List.map TRange.D v5)), .d (.sl (List.map TRange.D v6)), .d (.sl (List.map iD v7)), .d (.sl (List.map Form.D v8)), .d (.int .i64 v9)])), (3, some (.box [.d (.sl (List.map TItem.D v10))])), (30, some (.box [.d (.sl (List.map TItem.D v10)), .arr 1003 0 v418.length])), (1003, some (.arr 32 3 (List.map Row.D v418)))]⟩ (by simp [c707, c714, c719, c803, c1239, c1368, a1370, b1371, c1372] <;> omega) (by simp [c707, c714, c719, c803, c1239, c1368, a1370, b1371, c1372] <;> omega) ?_
    refine Walk.inBlock (Walk.region' rfl fun K hK => ?_)
    simp only [go_sem, seval, c707, c714, c719, c803, c1239, c1368, a1370, b1371, c1372]
    refine hK _ ?_
    clear hK K
    exact Walk.weaken _ (by simp [c707, c714, c719, c803, c1239, c1368, a1370, b1371, c1372] <;> omega) (by simp [c707, c714, c719, c803, c1239, c1368, a1370, b1371, c1372] <;> omega) (ih1365 _ (cont_elim hx))
  refine Walk.exit rfl ?_
  obtain ⟨z1375, e1376, hx⟩ := exit_elim hx
  rw [hr1366 z1375 e1376] at hx
  refine Walk.seq (Walk.seq (Walk.region' rfl fun K hK => ?_))
  simp only [go_sem, seval, c707, c714, c719, c803, c1239, c1368]
  refine hK _ ?_
  clear hK K
  refine Walk.condO rfl hx (fun c1377 hx => ?_) (fun c1377 hx => ?_)
  · refine Walk.seq (Walk.region' rfl fun K hK => ?_)
    simp only [go_sem, seval, c707, c714, c719, c803, c1239, c1368, c1377]
    refine hK _ ?_
    clear hK K
    refine Walk.weaken ⟨[(4, .nils), (5, .d (.int .i64 3))], []⟩ (by simp [c707, c714, c719, c803, c1239, c1368, c1377] <;> omega) (by simp [c707, c714, c719, c803, c1239, c1368, c1377] <;> omega) ?_
    refine Walk.up 2000 32 3 [(4, .arr 2000 0 0), (5, .d (.int .i64 3))] [] (by simp) (by simp) (by omega) (by simp) (by simp) (by simp) ?_
    obtain rfl := Option.some.inj hx
    exact Walk.ret ⟨by simp [c707, c714, c719, c803, c1239, c1368, c1377], by simp [c707, c714, c719, c803, c1239, c1368, c1377]⟩
  refine Walk.skip (Walk.seq (Walk.region' rfl fun K hK => ?_))
  simp only [go_sem, seval, c707, c714, c719, c803, c1239, c1368, c1377]
  refine hK _ ?_
  clear hK K
  refine Walk.weaken ⟨[(4, .arr 1003 0 v414.length), (5, .d (.int .i64 0))], [(1003, some (.arr 32 3 (List.map Row.D v414)))]⟩ (by simp [c707, c714, c719, c803, c1239, c1368, c1377] <;> omega) (by simp [c707, c714, c719, c803, c1239, c1368, c1377] <;> omega) ?_
  refine Walk.rename 1003 2000 (by omega) (by omega) (by simp) (by simp) ?_
  simp only [renE, renL, AV.ren, AV.rens, AObj.ren, swp, Option.map_some, reduceIte, Nat.reduceEqDiff]
  obtain rfl := Option.some.inj hx
  exact Walk.ret ⟨by simp [c707, c714, c719, c803, c1239, c1368, c1377], by simp [c707, c714, c719, c803, c1239, c1368, c1377]⟩
end Go.AX

