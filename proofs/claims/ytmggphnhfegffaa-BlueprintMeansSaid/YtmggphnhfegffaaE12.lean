import Derived.Test.YtmggphnhfegffaaE11
set_option linter.unusedVariables false
set_option linter.unusedSimpArgs false
set_option maxRecDepth 20000
set_option maxHeartbeats 4000000
namespace Go.AX
open Go.Proofs
attribute [local simp] take_map_len subE subH eget hget upE upV upH upO_refl upO_box upVs freshE freshH freshO AV.ids AV.idsL ids_box ids_arr frE frV_refl frV_arr frH frO_refl frO_box frVs newOk evalA AV.viewXs AV.viewX AV.viewXP AV.viewXPs AV.viewPs AV.viewP AV.flat AV.flatL D.flat arrsOnly flatObjs newNames subOf closedIn allSome dstOk newOrOld avD avDp zv_i64 zv_u8 zv_bool zv_nils zv_nilp zv_str retAV aLoad cut TI.isAgg nlE nlH nlO_refl nlO_box nlVs nlV_refl nlV_nil iD uD bD tD lD List.map_set ti2 ti3 ti4 ti5 ti6 ti7 ti8 ti9 ti10 ti11 ti12 ti13 ti14 ti15 ti16 ti17 ti18 ti19 ti21 ti22 ti23 ti25 ti26 ti27 ti31 ti32 ti41 ti51 ti52 ti53 ti54 ti56 ti58 ti60 ti61 ti62 ti67 ti68 ti71 ti72 ti79 ti80 ti81 ti82 ti83 ti84 ti85 ti89 ti93 ti94 ti95 ti110 ti124 ti125 ti126 ti127 ti128 ti129 ti130 ti131 ti133 ti134 ti135 ti136 ti137 Row.D TRange.D Ref.D Form.D Part.D TItem.D
attribute [local go_sem] V1_none V1_some V_nil V_move V_assign V_pick V_bin V_un V_extract V_makeFunc V_convert V_nilCheck V_fieldAddr V_field V_load V_store V_indexAddr V_index V_slice V_slice0 V_alloc V_box V_build V_buildSlice V_makeSlice V_len V_min V_max V_append V_call V_guard VGs_some VG_tt VG_ff VG_tf VG_ft VG_u gslot ok fail po so aNew dstOk freshU addLog_none' addLog_some' St.step putL evalA eget hget argE freshE freshO freshH AV.ids AV.idsL AV.ok1 AV.cells ids_box ids_arr liveBox liveArr isArr aPick aBin aUn aExtract aMakeFunc aConvert aNilCheck aFieldAddr aField cut aLen aIndexAddr aMin aMax aIndex bnd isInt aSlice aSlice0 aLoad aAlloc aBox aStore splice aMake updIds newIds zv_i64 zv_u8 zv_bool zv_nils zv_nilp cond_bool cond_int TI.isAgg TK.isSl TK.el okL avDps avDp avD List.map_cons List.map_nil List.append_nil List.nil_append List.cons_append List.length_cons List.length_nil List.take_succ_cons List.take_zero List.drop_succ_cons List.drop_zero List.take_nil List.drop_nil List.headD_cons List.getD_cons_zero List.getD_cons_succ List.mem_cons List.not_mem_nil List.getElem?_cons_zero List.getElem?_cons_succ List.toList_toArray Option.getD_some Option.getD_none Option.bind_some Option.bind_none Option.map_some Option.map_none Option.getD Option.toList Nat.zero_add Nat.add_zero Nat.zero_le Nat.le_refl if_true if_false ite_self true_and and_true false_and and_false true_or or_true false_or or_false not_true_eq_false not_false_eq_true ne_eq cond_true cond_false Bool.true_eq_false Bool.false_eq_true forall_const decide_true decide_false implies_true true_implies and_self or_self Nat.succ_ne_zero Int.toNat_natCast Int.natCast_nonneg List.length_map decide_eq_true_eq AV.views AV.view AV.viewPs AV.viewP arrsOnly newNames List.length_append List.append_assoc Bool.not_true Bool.not_false AV.ok2 aBuild fillR fillP aBuildSlice dense elP aAppend esOf esOfP List.forall_mem_cons forall_eq_or_imp forall_eq zD zDp map_take' map_drop' iD uD bD tD lD iD_len uD_len bD_len tD_len lD_len LB Int.cast_ofNat_Int Int.natCast_zero Int.natCast_one head_len all_len List.head?_cons List.head?_nil Bool.not_not eq_self List.take_length zv_str aConv byteOf isByte map_bcell bytes_all str_map cellsEq cellsP AV.kd Bool.and_true Bool.true_and Bool.and_false Bool.false_and ti2 ti3 ti4 ti5 ti6 ti7 ti8 ti9 ti10 ti11 ti12 ti13 ti14 ti15 ti16 ti17 ti18 ti19 ti21 ti22 ti23 ti25 ti26 ti27 ti31 ti32 ti41 ti51 ti52 ti53 ti54 ti56 ti58 ti60 ti61 ti62 ti67 ti68 ti71 ti72 ti79 ti80 ti81 ti82 ti83 ti84 ti85 ti89 ti93 ti94 ti95 ti110 ti124 ti125 ti126 ti127 ti128 ti129 ti130 ti131 ti133 ti134 ti135 ti136 ti137 Row.D TRange.D Ref.D Form.D Part.D TItem.D Row.D_len TRange.D_len Ref.D_len Form.D_len Part.D_len TItem.D_len zs_ zs_48_49_50_51_52_53_54_55_56_57_48_49_50_51_52_53_54_55_56_57_48_49_50_51_52_53_54_55_56_57_48_49_50_51_52_53_54_55_56_57_120 zs_113 zs_116_97_98_9 eqf85_00
noncomputable def law08_BlueprintMeans_l0 (v20 : Int × List TItem) (v21 : List Row × Int) (v19 : Int × Int × Int × Int × List Form × List Int × List TRange × List TRange × Int × Int) (v25 : Int) : Option ((Int) ⊕ (Bool)) :=
  chk (0 ≤ (IntKind.u64.wrap ((v20.2.length : Int)))) (bif decide (v25 < (IntKind.i64.wrap (1 * 2 ^ (min (IntKind.u64.wrap ((v20.2.length : Int))).toNat 64)))) then ((ref08_Subset (v20.2.length : Int) v25).bind fun v29 => (blueprint_Meets (List.replicate ((v20.2.length : Int)).toNat (0 : Int)) v21.1 v29).bind fun v30 => (law08_wanted v19.2.1 v19.2.2.2.2.2.2.2.2.1 v19.2.2.2.2.2.2.2.2.2 v19.2.2.1 v19.2.2.2.2.2.2.2.1 v19.2.2.2.2.2.2.1 v19.2.2.2.2.2.1 v19.2.2.2.2.1 v19.2.2.2.1 v20.2 v29).bind fun v31 => bif !(v30 == v31) then (exitO (some (false : Bool))) else (contO (IntKind.i64.wrap (v25 + 1) : Int))) else (exitO ((law08_awake).bind fun v32 => some (v32 : Bool))))
noncomputable def law08_BlueprintMeans (v1 : List Int) : Option (Bool) :=
  (mk_New v1).bind fun v18 => (mk_Tape_Blueprint v18 0 0).bind fun v19 => (mk_Tape_Items v18 v19.1 5).bind fun v20 => (blueprint_Rows v19.2.1 v19.2.2.2.2.2.2.2.2.1 v19.2.2.2.2.2.2.2.2.2 v19.2.2.1 v19.2.2.2.2.2.2.2.1 v19.2.2.2.2.2.2.1 v19.2.2.2.2.2.1 v19.2.2.2.2.1 v19.2.2.2.1 v20.2).bind fun v21 => bif decide (¬ v21.2 = 0) then (some (false : Bool)) else (chk ((0 : Int) ≤ (v20.2.length : Int) ∧ (v20.2.length : Int) = (v20.2.length : Int) ∧ 8 * (v20.2.length : Int) ≤ 281474976710656 ∧ (v20.2.length : Int) ≤ 281474976710656) (iter (fun g : Int => law08_BlueprintMeans_l0 v20 v21 v19 g) 0))
theorem law08_BlueprintMeans_ok (v1 : List Int) (r : Bool) (hx : law08_BlueprintMeans v1 = some r) :
    ACalls Try.prog 11 [.d (.sl (List.map iD v1))] [] (.d (.bool r)) [] := by
  refine ACalls.of_sem (n := 51) 0 [2] (fn := Try.f11) Try.func11 rfl rfl (.one rfl) rfl (by simp) (by intro i; simp only [hget]; (repeat' split) <;> simp <;> omega) ?_
  unfold law08_BlueprintMeans at hx
  refine Walk.seq (Walk.region' rfl fun K hK => ?_)
  simp only [go_sem, seval]
  refine hK _ ?_
  clear hK K
  refine Walk.seq (Walk.region' rfl fun K hK => ?_)
  obtain ⟨v18, h48, hx⟩ := bind_elim hx
  have w49 := ((mk_New_ok v1 _ h48).swap 2000 1011)
  simp only [renE, renL, AV.ren, AV.rens, AObj.ren, swp, Option.map_some, reduceIte, Nat.reduceEqDiff] at w49
  simp only [go_sem, seval]
  refine VCl.sub [] [] rfl (by simp only [go_sem, seval, AV.viewXs, AV.viewX, avD]; try simp) (w49) (by simp) (by simp) (by simp) (by simp) (by simp) (by simp) (by simp) (by simp) (by simp) (by simp) ?_
  simp only [go_sem, seval]
  refine hK _ ?_
  clear hK K
  refine Walk.weaken ⟨[(3, .box 1011 0)], [(1011, some (.box [.d (.sl (List.map iD v18)), .d (.int .i64 0)]))]⟩ (by simp <;> omega) (by simp <;> omega) ?_
  refine Walk.seq (Walk.region' rfl fun K hK => ?_)
  obtain ⟨v19, h50, hx⟩ := bind_elim hx
  have w51 := ((((((mk_Tape_Blueprint_ok v18 0 0 _ h50).swap 0 1011).swap 2001 1012).swap 2002 1013).swap 2003 1014).swap 2004 1015)
  simp only [renE, renL, AV.ren, AV.rens, AObj.ren, swp, Option.map_some, reduceIte, Nat.reduceEqDiff] at w51
  simp only [go_sem, seval]
  refine VCl.sub [(1011, some (.box [.d (.sl (List.map iD v18)), .d (.int .i64 0)]))] [] rfl (by simp only [go_sem, seval, AV.viewXs, AV.viewX, avD]; try simp) (w51) (by simp) (by simp) (by simp) (by simp) (by simp) (by simp) (by simp) (by simp) (by simp) (by simp) ?_
  simp only [go_sem, seval]
  refine hK _ ?_
  clear hK K
  refine Walk.weaken ⟨[(3, .box 1011 0), (4, .box 4 0)], [(4, some (.box [.d (.int .i64 v19.2.1), .d (.int .i64 v19.2.2.2.2.2.2.2.2.1), .d (.int .i64 v19.2.2.2.2.2.2.2.2.2), .d (.int .i64 v19.2.2.1), .arr 1012 0 v19.2.2.2.2.2.2.2.1.length, .arr 1013 0 v19.2.2.2.2.2.2.1.length, .arr 1014 0 v19.2.2.2.2.2.1.length, .arr 1015 0 v19.2.2.2.2.1.length, .d (.int .i64 v19.2.2.2.1)])), (1011, some (.box [.d (.sl (List.map iD v18)), .d (.int .i64 v19.1)])), (1012, some (.arr 80 3 (List.map TRange.D v19.2.2.2.2.2.2.2.1))), (1013, some (.arr 80 3 (List.map TRange.D v19.2.2.2.2.2.2.1))), (1014, some (.arr 3 1 (List.map iD v19.2.2.2.2.2.1))), (1015, some (.arr 83 2 (List.map Form.D v19.2.2.2.2.1)))]⟩ (by simp <;> omega) (by simp <;> omega) ?_
  refine Walk.seq (Walk.region' rfl fun K hK => ?_)
  obtain ⟨v20, h52, hx⟩ := bind_elim hx
  have w53 := (((mk_Tape_Items_ok v18 v19.1 5 _ h52).swap 0 1011).swap 2000 1016)
  simp only [renE, renL, AV.ren, AV.rens, AObj.ren, swp, Option.map_some, reduceIte, Nat.reduceEqDiff] at w53
  simp only [go_sem, seval]
  refine VCl.sub [(1011, some (.box [.d (.sl (List.map iD v18)), .d (.int .i64 v19.1)]))] [] rfl (by simp only [go_sem, seval, AV.viewXs, AV.viewX, avD]; try simp) (w53) (by simp) (by simp) (by simp) (by simp) (by simp) (by simp) (by simp) (by simp) (by simp) (by simp) ?_
  simp only [go_sem, seval]
  refine hK _ ?_
  clear hK K
  refine Walk.weaken ⟨[(4, .box 4 0), (5, .arr 1016 0 v20.2.length)], [(4, some (.box [.d (.int .i64 v19.2.1), .d (.int .i64 v19.2.2.2.2.2.2.2.2.1), .d (.int .i64 v19.2.2.2.2.2.2.2.2.2), .d (.int .i64 v19.2.2.1), .arr 1012 0 v19.2.2.2.2.2.2.2.1.length, .arr 1013 0 v19.2.2.2.2.2.2.1.length, .arr 1014 0 v19.2.2.2.2.2.1.length, .arr 1015 0 v19.2.2.2.2.1.length, .d (.int .i64 v19.2.2.2.1)])), (1012, some (.arr 80 3 (List.map TRange.D v19.2.2.2.2.2.2.2.1))), (1013, some (.arr 80 3 (List.map TRange.D v19.2.2.2.2.2.2.1))), (1014, some (.arr 3 1 (List.map iD v19.2.2.2.2.2.1))), (1015, some (.arr 83 2 (List.map Form.D v19.2.2.2.2.1))), (1016, some (.arr 62 5 (List.map TItem.D v20.2)))]⟩ (by simp <;> omega) (by simp <;> omega) ?_
  refine Walk.seq ?_
  refine Walk.weaken ⟨[(4, .box 4 0), (5, .arr 1016 0 v20.2.length)], [(4, some (.box [.d (.int .i64 v19.2.1), .d (.int .i64 v19.2.2.2.2.2.2.2.2.1), .d (.int .i64 v19.2.2.2.2.2.2.2.2.2), .d (.int .i64 v19.2.2.1), .arr 1012 0 v19.2.2.2.2.2.2.2.1.length, .arr 1013 0 v19.2.2.2.2.2.2.1.length, .arr 1014 0 v19.2.2.2.2.2.1.length, .arr 1015 0 v19.2.2.2.2.1.length, .d (.int .i64 v19.2.2.2.1)])), (1012, some (.arr 80 3 (List.map TRange.D v19.2.2.2.2.2.2.2.1))), (1013, some (.arr 80 3 (List.map TRange.D v19.2.2.2.2.2.2.1))), (1014, some (.arr 3 1 (List.map iD v19.2.2.2.2.2.1))), (1015, some (.arr 83 2 (List.map Form.D v19.2.2.2.2.1))), (1016, some (.arr 62 5 (List.map TItem.D v20.2)))]⟩ (by simp <;> omega) (by simp <;> omega) ?_
  refine Walk.freeze 1012 80 3 (List.map TRange.D v19.2.2.2.2.2.2.2.1) [(4, .box 4 0), (5, .arr 1016 0 v20.2.length)] [(4, some (.box [.d (.int .i64 v19.2.1), .d (.int .i64 v19.2.2.2.2.2.2.2.2.1), .d (.int .i64 v19.2.2.2.2.2.2.2.2.2), .d (.int .i64 v19.2.2.1), .d (.sl (List.map TRange.D v19.2.2.2.2.2.2.2.1)), .arr 1013 0 v19.2.2.2.2.2.2.1.length, .arr 1014 0 v19.2.2.2.2.2.1.length, .arr 1015 0 v19.2.2.2.2.1.length, .d (.int .i64 v19.2.2.2.1)])), (1013, some (.arr 80 3 (List.map TRange.D v19.2.2.2.2.2.2.1))), (1014, some (.arr 3 1 (List.map iD v19.2.2.2.2.2.1))), (1015, some (.arr 83 2 (List.map Form.D v19.2.2.2.2.1))), (1016, some (.arr 62 5 (List.map TItem.D v20.2)))] (by simp) (by simp) (by simp) ?_
  refine Walk.weaken ⟨[(4, .box 4 0), (5, .arr 1016 0 v20.2.length)], [(4, some (.box [.d (.int .i64 v19.2.1), .d (.int .i64 v19.2.2.2.2.2.2.2.2.1), .d (.int .i64 v19.2.2.2.2.2.2.2.2.2), .d (.int .i64 v19.2.2.1), .d (.sl (List.map TRange.D v19.2.2.2.2.2.2.2.1)), .arr 1013 0 v19.2.2.2.2.2.2.1.length, .arr 1014 0 v19.2.2.2.2.2.1.length, .arr 1015 0 v19.2.2.2.2.1.length, .d (.int .i64 v19.2.2.2.1)])), (1013, some (.arr 80 3 (List.map TRange.D v19.2.2.2.2.2.2.1))), (1014, some (.arr 3 1 (List.map iD v19.2.2.2.2.2.1))), (1015, some (.arr 83 2 (List.map Form.D v19.2.2.2.2.1))), (1016, some (.arr 62 5 (List.map TItem.D v20.2)))]⟩ (by simp <;> omega) (by simp <;> omega) ?_
  refine Walk.freeze 1013 80 3 (List.map TRange.D v19.2.2.2.2.2.2.1) [(4, .box 4 0), (5, .arr 1016 0 v20.2.length)] [(4, some (.box [.d (.int .i64 v19.2.1), .d (.int .i64 v19.2.2.2.2.2.2.2.2.1), .d (.int .i64 v19.2.2.2.2.2.2.2.2.2), .d (.int .i64 v19.2.2.1), .d (.sl (List.map TRange.D v19.2.2.2.2.2.2.2.1)), .d (.sl (List.map TRange.D v19.2.2.2.2.2.2.1)), .arr 1014 0 v19.2.2.2.2.2.1.length, .arr 1015 0 v19.2.2.2.2.1.length, .d (.int .i64 v19.2.2.2.1)])), (1014, some (.arr 3 1 (List.map iD v19.2.2.2.2.2.1))), (1015, some (.arr 83 2 (List.map Form.D v19.2.2.2.2.1))), (1016, some (.arr 62 5 (List.map TItem.D v20.2)))] (by simp) (by simp) (by simp) ?_
  refine Walk.weaken ⟨[(4, .box 4 0), (5, .arr 1016 0 v20.2.length)], [(4, some (.box [.d (.int .i64 v19.2.1), .d (.int .i64 v19.2.2.2.2.2.2.2.2.1), .d (.int .i64 v19.2.2.2.2.2.2.2.2.2), .d (.int .i64 v19.2.2.1), .d (.sl (List.map TRange.D v19.2.2.2.2.2.2.2.1)), .d (.sl (List.map TRange.D v19.2.2.2.2.2.2.1)), .arr 1014 0 v19.2.2.2.2.2.1.length, .arr 1015 0 v19.2.2.2.2.1.length, .d (.int .i64 v19.2.2.2.1)])), (1014, some (.arr 3 1 (List.map iD v19.2.2.2.2.2.1))), (1015, some (.arr 83 2 (List.map Form.D v19.2.2.2.2.1))), (1016, some (.arr 62 5 (List.map TItem.D v20.2)))]⟩ (by simp <;> omega) (by simp <;> omega) ?_
  refine Walk.freeze 1014 3 1 (List.map iD v19.2.2.2.2.2.1) [(4, .box 4 0), (5, .arr 1016 0 v20.2.length)] [(4, some (.box [.d (.int .i64 v19.2.1), .d (.int .i64 v19.2.2.2.2.2.2.2.2.1), .d (.int .i64 v19.2.2.2.2.2.2.2.2.2), .d (.int .i64 v19.2.2.1), .d (.sl (List.map TRange.D v19.2.2.2.2.2.2.2.1)), .d (.sl (List.map TRange.D v19.2.2.2.2.2.2.1)), .d (.sl (List.map iD v19.2.2.2.2.2.1)), .arr 1015 0 v19.2.2.2.2.1.length, .d (.int .i64 v19.2.2.2.1)])), (1015, some (.arr 83 2 (List.map Form.D v19.2.2.2.2.1))), (1016, some (.arr 62 5 (List.map TItem.D v20.2)))] (by simp) (by simp) (by simp) ?_
  refine Walk.weaken ⟨[(4, .box 4 0), (5, .arr 1016 0 v20.2.length)], [(4, some (.box [.d (.int .i64 v19.2.1), .d (.int .i64 v19.2.2.2.2.2.2.2.2.1), .d (.int .i64 v19.2.2.2.2.2.2.2.2.2), .d (.int .i64 v19.2.2.1), .d (.sl (List.map TRange.D v19.2.2.2.2.2.2.2.1)), .d (.sl (List.map TRange.D v19.2.2.2.2.2.2.1)), .d (.sl (List.map iD v19.2.2.2.2.2.1)), .arr 1015 0 v19.2.2.2.2.1.length, .d (.int .i64 v19.2.2.2.1)])), (1015, some (.arr 83 2 (List.map Form.D v19.2.2.2.2.1))), (1016, some (.arr 62 5 (List.map TItem.D v20.2)))]⟩ (by simp <;> omega) (by simp <;> omega) ?_
  refine Walk.freeze 1015 83 2 (List.map Form.D v19.2.2.2.2.1) [(4, .box 4 0), (5, .arr 1016 0 v20.2.length)] [(4, some (.box [.d (.int .i64 v19.2.1), .d (.int .i64 v19.2.2.2.2.2.2.2.2.1), .d (.int .i64 v19.2.2.2.2.2.2.2.2.2), .d (.int .i64 v19.2.2.1), .d (.sl (List.map TRange.D v19.2.2.2.2.2.2.2.1)), .d (.sl (List.map TRange.D v19.2.2.2.2.2.2.1)), .d (.sl (List.map iD v19.2.2.2.2.2.1)), .d (.sl (List.map Form.D v19.2.2.2.2.1)), .d (.int .i64 v19.2.2.2.1)])), (1016, some (.arr 62 5 (List.map TItem.D v20.2)))] (by simp) (by simp) (by simp) ?_
  refine Walk.weaken ⟨[(4, .box 4 0), (5, .arr 1016 0 v20.2.length)], [(4, some (.box [.d (.int .i64 v19.2.1), .d (.int .i64 v19.2.2.2.2.2.2.2.2.1), .d (.int .i64 v19.2.2.2.2.2.2.2.2.2), .d (.int .i64 v19.2.2.1), .d (.sl (List.map TRange.D v19.2.2.2.2.2.2.2.1)), .d (.sl (List.map TRange.D v19.2.2.2.2.2.2.1)), .d (.sl (List.map iD v19.2.2.2.2.2.1)), .d (.sl (List.map Form.D v19.2.2.2.2.1)), .d (.int .i64 v19.2.2.2.1)])), (1016, some (.arr 62 5 (List.map TItem.D v20.2)))]⟩ (by simp <;> omega) (by simp <;> omega) ?_
  refine Walk.freeze 1016 62 5 (List.map TItem.D v20.2) [(4, .box 4 0), (5, .d (.sl (List.map TItem.D v20.2)))] [(4, some (.box [.d (.int .i64 v19.2.1), .d (.int .i64 v19.2.2.2.2.2.2.2.2.1), .d (.int .i64 v19.2.2.2.2.2.2.2.2.2), .d (.int .i64 v19.2.2.1), .d (.sl (List.map TRange.D v19.2.2.2.2.2.2.2.1)), .d (.sl (List.map TRange.D v19.2.2.2.2.2.2.1)), .d (.sl (List.map iD v19.2.2.2.2.2.1)), .d (.sl (List.map Form.D v19.2.2.2.2.1)), .d (.int .i64 v19.2.2.2.1)]))] (by simp) (by simp) (by simp) ?_
  refine Walk.region' rfl fun K hK => ?_
  obtain ⟨v21, h54, hx⟩ := bind_elim hx
  have w55 := ((blueprint_Rows_ok v19.2.1 v19.2.2.2.2.2.2.2.2.1 v19.2.2.2.2.2.2.2.2.2 v19.2.2.1 v19.2.2.2.2.2.2.2.1 v19.2.2.2.2.2.2.1 v19.2.2.2.2.2.1 v19.2.2.2.2.1 v19.2.2.2.1 v20.2 _ h54).swap 2000 1017)
  simp only [renE, renL, AV.ren, AV.rens, AObj.ren, swp, Option.map_some, reduceIte, Nat.reduceEqDiff] at w55
  simp only [go_sem, seval]
  refine VCl.pure rfl (by simp only [go_sem, seval]; try simp) (w55) (by simp only [go_sem, seval]; try simp) (by simp only [go_sem, seval]; try simp) (by simp only [go_sem, seval]; try simp) (by simp only [go_sem, seval]; try simp) (by simp only [go_sem, seval]; try simp) (by simp only [go_sem, seval]; try simp) ?_
  simp only [go_sem, seval]
  refine hK _ ?_
  clear hK K
  refine Walk.weaken ⟨[(4, .box 4 0), (5, .d (.sl (List.map TItem.D v20.2))), (6, .arr 1017 0 v21.1.length), (7, .d (.int .i64 v21.2))], [(4, some (.box [.d (.int .i64 v19.2.1), .d (.int .i64 v19.2.2.2.2.2.2.2.2.1), .d (.int .i64 v19.2.2.2.2.2.2.2.2.2), .d (.int .i64 v19.2.2.1), .d (.sl (List.map TRange.D v19.2.2.2.2.2.2.2.1)), .d (.sl (List.map TRange.D v19.2.2.2.2.2.2.1)), .d (.sl (List.map iD v19.2.2.2.2.2.1)), .d (.sl (List.map Form.D v19.2.2.2.2.1)), .d (.int .i64 v19.2.2.2.1)])), (1017, some (.arr 32 3 (List.map Row.D v21.1)))]⟩ (by simp <;> omega) (by simp <;> omega) ?_
  refine Walk.seq (Walk.seq (Walk.region' rfl fun K hK => ?_))
  simp only [go_sem, seval]
  refine hK _ ?_
  clear hK K
  refine Walk.condO rfl hx (fun c58 hx => ?_) (fun c58 hx => ?_)
  · refine Walk.seq (Walk.region' rfl fun K hK => ?_)
    simp only [go_sem, seval, c58]
    refine hK _ ?_
    clear hK K
    obtain rfl := Option.some.inj hx
    exact Walk.ret ⟨by simp [c58], by simp [c58]⟩
  refine Walk.skip (Walk.seq (Walk.region' rfl fun K hK => ?_))
  obtain ⟨k59, hx⟩ := chk_elim hx
  simp only [go_sem, seval, c58, k59]
  repeat refine And.intro (by first | omega | (simp; done) | (simp; omega)) ?_
  refine hK _ ?_
  clear hK K
  refine Walk.weaken ⟨[(4, .box 4 0), (5, .d (.sl (List.map TItem.D v20.2))), (8, .box 8 0)], [(4, some (.box [.d (.int .i64 v19.2.1), .d (.int .i64 v19.2.2.2.2.2.2.2.2.1), .d (.int .i64 v19.2.2.2.2.2.2.2.2.2), .d (.int .i64 v19.2.2.1), .d (.sl (List.map TRange.D v19.2.2.2.2.2.2.2.1)), .d (.sl (List.map TRange.D v19.2.2.2.2.2.2.1)), .d (.sl (List.map iD v19.2.2.2.2.2.1)), .d (.sl (List.map Form.D v19.2.2.2.2.1)), .d (.int .i64 v19.2.2.2.1)])), (8, some (.box [.arr 27 0 (((List.replicate ((v20.2.length : Int)).toNat (0 : Int))).length), .arr 1017 0 v21.1.length])), (27, some (.arr 3 1 (List.map iD ((List.replicate ((v20.2.length : Int)).toNat (0 : Int)))))), (1017, some (.arr 32 3 (List.map Row.D v21.1)))]⟩ (by simp [c58, k59] <;> omega) (by simp [c58, k59] <;> omega) ?_
  refine Walk.seq (Walk.seq (Walk.region' rfl fun K hK => ?_))
  simp only [go_sem, seval, c58, k59]
  refine hK _ ?_
  clear hK K
  refine Walk.block (Walk.loop ?_)
  refine Walk.weaken ⟨[(4, .box 4 0), (5, .d (.sl (List.map TItem.D v20.2))), (8, .box 8 0), (9, .d (.int .i64 0))], [(4, some (.box [.d (.int .i64 v19.2.1), .d (.int .i64 v19.2.2.2.2.2.2.2.2.1), .d (.int .i64 v19.2.2.2.2.2.2.2.2.2), .d (.int .i64 v19.2.2.1), .d (.sl (List.map TRange.D v19.2.2.2.2.2.2.2.1)), .d (.sl (List.map TRange.D v19.2.2.2.2.2.2.1)), .d (.sl (List.map iD v19.2.2.2.2.2.1)), .d (.sl (List.map Form.D v19.2.2.2.2.1)), .d (.int .i64 v19.2.2.2.1)])), (8, some (.box [.arr 27 0 (((List.replicate ((v20.2.length : Int)).toNat (0 : Int))).length), .arr 1017 0 v21.1.length])), (27, some (.arr 3 1 (List.map iD ((List.replicate ((v20.2.length : Int)).toNat (0 : Int)))))), (1017, some (.arr 32 3 (List.map Row.D v21.1)))]⟩ (by simp [c58, k59] <;> omega) (by simp [c58, k59] <;> omega) ?_
  refine Walk.iter (σ := Int) (fun g => ⟨[(4, .box 4 0), (5, .d (.sl (List.map TItem.D v20.2))), (8, .box 8 0), (9, .d (.int .i64 g))], [(4, some (.box [.d (.int .i64 v19.2.1), .d (.int .i64 v19.2.2.2.2.2.2.2.2.1), .d (.int .i64 v19.2.2.2.2.2.2.2.2.2), .d (.int .i64 v19.2.2.1), .d (.sl (List.map TRange.D v19.2.2.2.2.2.2.2.1)), .d (.sl (List.map TRange.D v19.2.2.2.2.2.2.1)), .d (.sl (List.map iD v19.2.2.2.2.2.1)), .d (.sl (List.map Form.D v19.2.2.2.2.1)), .d (.int .i64 v19.2.2.2.1)])), (8, some (.box [.arr 27 0 (((List.replicate ((v20.2.length : Int)).toNat (0 : Int))).length), .arr 1017 0 v21.1.length])), (27, some (.arr 3 1 (List.map iD ((List.replicate ((v20.2.length : Int)).toNat (0 : Int)))))), (1017, some (.arr 32 3 (List.map Row.D v21.1)))]⟩) (fun g : Int => law08_BlueprintMeans_l0 v20 v21 v19 g) _ (fun v25 y97 hx ih80 hr81 => ?_) 0 hx
  unfold law08_BlueprintMeans_l0 at hx
  try dsimp only at hx ⊢
  refine Walk.seq (Walk.seq (Walk.region' rfl fun K hK => ?_))
  obtain ⟨k84, hx⟩ := chk_elim hx
  simp only [go_sem, seval, c58, k59, k84]
  repeat refine And.intro (by first | omega | (simp; done) | (simp; omega)) ?_
  refine hK _ ?_
  clear hK K
  refine Walk.condO rfl hx (fun c86 hx => ?_) (fun c86 hx => ?_)
  · refine Walk.skip (Walk.seq (Walk.block (Walk.seq (Walk.region' rfl fun K hK => ?_))))
    obtain ⟨v29, h87, hx⟩ := bind_elim hx
    have w88 := ((ref08_Subset_ok (v20.2.length : Int) v25 _ h87).swap 2000 1020)
    simp only [renE, renL, AV.ren, AV.rens, AObj.ren, swp, Option.map_some, reduceIte, Nat.reduceEqDiff] at w88
    simp only [go_sem, seval, c58, k59, k84, c86]
    refine VCl.pure rfl (by simp only [go_sem, seval, c58, k59, k84, c86]; try simp) (w88) (by simp only [go_sem, seval, c58, k59, k84, c86]; try simp) (by simp only [go_sem, seval, c58, k59, k84, c86]; try simp) (by simp only [go_sem, seval, c58, k59, k84, c86]; try simp) (by simp only [go_sem, seval, c58, k59, k84, c86]; try simp) (by simp only [go_sem, seval, c58, k59, k84, c86]; try simp) (by simp only [go_sem, seval, c58, k59, k84, c86]; try simp) ?_
    simp only [go_sem, seval, c58, k59, k84, c86]
    refine hK _ ?_
    clear hK K
    refine Walk.weaken ⟨[(4, .box 4 0), (5, .d (.sl (List.map TItem.D v20.2))), (8, .box 8 0), (9, .d (.int .i64 v25)), (10, .arr 1020 0 v29.length)], [(4, some (.box [.d (.int .i64 v19.2.1), .d (.int .i64 v19.2.2.2.2.2.2.2.2.1), .d (.int .i64 v19.2.2.2.2.2.2.2.2.2), .d (.int .i64 v19.2.2.1), .d (.sl (List.map TRange.D v19.2.2.2.2.2.2.2.1)), .d (.sl (List.map TRange.D v19.2.2.2.2.2.2.1)), .d (.sl (List.map iD v19.2.2.2.2.2.1)), .d (.sl (List.map Form.D v19.2.2.2.2.1)), .d (.int .i64 v19.2.2.2.1)])), (8, some (.box [.arr 27 0 (((List.replicate ((v20.2.length : Int)).toNat (0 : Int))).length), .arr 1017 0 v21.1.length])), (27, some (.arr 3 1 (List.map iD ((List.replicate ((v20.2.length : Int)).toNat (0 : Int)))))), (1017, some (.arr 32 3 (List.map Row.D v21.1))), (1020, some (.arr 3 1 (List.map iD v29)))]⟩ (by simp [c58, k59, k84, c86] <;> omega) (by simp [c58, k59, k84, c86] <;> omega) ?_
    refine Walk.seq (Walk.drawn' rfl mixed fun K hK => ?_)
    obtain ⟨v30, h89, hx⟩ := bind_elim hx
    simp only [go_sem, seval, c58, k59, k84, c86]
    refine VCl.lent rfl (by simp only [go_sem, seval, c58, k59, k84, c86]; try simp) (blueprint_Meets_ok (List.replicate ((v20.2.length : Int)).toNat (0 : Int)) v21.1 v29 _ h89) (by simp [c58, k59, k84, c86]) (by simp [c58, k59, k84, c86]) (by simp [c58, k59, k84, c86]) (by simp [c58, k59, k84, c86]) (by simp [c58, k59, k84, c86]) (by simp [c58, k59, k84, c86]) (by simp [c58, k59, k84, c86]) ?_
    obtain ⟨v31, h90, hx⟩ := bind_elim hx
    simp only [go_sem, seval, c58, k59, k84, c86]
    refine VCl.lent rfl (by simp only [go_sem, seval, c58, k59, k84, c86]; try simp) (law08_wanted_ok v19.2.1 v19.2.2.2.2.2.2.2.2.1 v19.2.2.2.2.2.2.2.2.2 v19.2.2.1 v19.2.2.2.2.2.2.2.1 v19.2.2.2.2.2.2.1 v19.2.2.2.2.2.1 v19.2.2.2.2.1 v19.2.2.2.1 v20.2 v29 _ h90) (by simp [c58, k59, k84, c86]) (by simp [c58, k59, k84, c86]) (by simp [c58, k59, k84, c86]) (by simp [c58, k59, k84, c86]) (by simp [c58, k59, k84, c86]) (by simp [c58, k59, k84, c86]) (by simp [c58, k59, k84, c86]) ?_
    simp only [go_sem, seval, c58, k59, k84, c86]
    refine hK _ _ (by kernel_rfl) (by simp [c58, k59, k84, c86]) ?_
    clear hK K
    refine Walk.condO rfl hx (fun c91 hx => ?_) (fun c91 hx => ?_)
    · refine Walk.seq (Walk.region' rfl fun K hK => ?_)
      simp only [go_sem, seval, c58, k59, k84, c86, c91]
      refine hK _ ?_
      clear hK K
      obtain ⟨z92, e93, hx⟩ := exit_elim hx
      rw [hr81 z92 e93] at hx
      obtain rfl := Option.some.inj hx
      exact Walk.ret ⟨by simp [c58, k59, k84, c86, c91], by simp [c58, k59, k84, c86, c91]⟩
    refine Walk.skip (Walk.inBlock (Walk.region' rfl fun K hK => ?_))
    simp only [go_sem, seval, c58, k59, k84, c86, c91]
    refine hK _ ?_
    clear hK K
    exact Walk.weaken _ (by simp [c58, k59, k84, c86, c91] <;> omega) (by simp [c58, k59, k84, c86, c91] <;> omega) (ih80 _ (cont_elim hx))
  refine Walk.exit rfl ?_
  obtain ⟨z94, e95, hx⟩ := exit_elim hx
  rw [hr81 z94 e95] at hx
  refine Walk.seq (Walk.region' rfl fun K hK => ?_)
  obtain ⟨v32, h96, hx⟩ := bind_elim hx
  simp only [go_sem, seval, c58, k59, k84, c86]
  refine VCl.pure rfl (by simp only [go_sem, seval, c58, k59, k84, c86]; try simp) (law08_awake_ok _ h96) (by simp only [go_sem, seval, c58, k59, k84, c86]; try simp) (by simp only [go_sem, seval, c58, k59, k84, c86]; try simp) (by simp only [go_sem, seval, c58, k59, k84, c86]; try simp) (by simp only [go_sem, seval, c58, k59, k84, c86]; try simp) (by simp only [go_sem, seval, c58, k59, k84, c86]; try simp) (by simp only [go_sem, seval, c58, k59, k84, c86]; try simp) ?_
  simp only [go_sem, seval, c58, k59, k84, c86]
  refine hK _ ?_
  clear hK K
  obtain rfl := Option.some.inj hx
  exact Walk.ret ⟨by simp [c58, k59, k84, c86], by simp [c58, k59, k84, c86]⟩
end Go.AX

