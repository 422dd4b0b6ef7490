import Derived.Test.YtmggphnhfegffaaE7
set_option linter.unusedVariables false
set_option linter.unusedSimpArgs false
set_option maxRecDepth 20000
set_option maxHeartbeats 4000000
namespace Go.AX
open Go.Proofs
attribute [local simp] take_map_len subE subH eget hget upE upV upH upO_refl upO_box upVs freshE freshH freshO AV.ids AV.idsL ids_box ids_arr frE frV_refl frV_arr frH frO_refl frO_box frVs newOk evalA AV.viewXs AV.viewX AV.viewXP AV.viewXPs AV.viewPs AV.viewP AV.flat AV.flatL D.flat arrsOnly flatObjs newNames subOf closedIn allSome dstOk newOrOld avD avDp zv_i64 zv_u8 zv_bool zv_nils zv_nilp zv_str retAV aLoad cut TI.isAgg nlE nlH nlO_refl nlO_box nlVs nlV_refl nlV_nil iD uD bD tD lD List.map_set ti2 ti3 ti4 ti5 ti6 ti7 ti8 ti9 ti10 ti11 ti12 ti13 ti14 ti15 ti16 ti17 ti18 ti19 ti21 ti22 ti23 ti25 ti26 ti27 ti31 ti32 ti41 ti51 ti52 ti53 ti54 ti56 ti58 ti60 ti61 ti62 ti67 ti68 ti71 ti72 ti79 ti80 ti81 ti82 ti83 ti84 ti85 ti89 ti93 ti94 ti95 ti110 ti124 ti125 ti126 ti127 ti128 ti129 ti130 ti131 ti133 ti134 ti135 ti136 ti137 Row.D TRange.D Ref.D Form.D Part.D TItem.D
attribute [local go_sem] V1_none V1_some V_nil V_move V_assign V_pick V_bin V_un V_extract V_makeFunc V_convert V_nilCheck V_fieldAddr V_field V_load V_store V_indexAddr V_index V_slice V_slice0 V_alloc V_box V_build V_buildSlice V_makeSlice V_len V_min V_max V_append V_call V_guard VGs_some VG_tt VG_ff VG_tf VG_ft VG_u gslot ok fail po so aNew dstOk freshU addLog_none' addLog_some' St.step putL evalA eget hget argE freshE freshO freshH AV.ids AV.idsL AV.ok1 AV.cells ids_box ids_arr liveBox liveArr isArr aPick aBin aUn aExtract aMakeFunc aConvert aNilCheck aFieldAddr aField cut aLen aIndexAddr aMin aMax aIndex bnd isInt aSlice aSlice0 aLoad aAlloc aBox aStore splice aMake updIds newIds zv_i64 zv_u8 zv_bool zv_nils zv_nilp cond_bool cond_int TI.isAgg TK.isSl TK.el okL avDps avDp avD List.map_cons List.map_nil List.append_nil List.nil_append List.cons_append List.length_cons List.length_nil List.take_succ_cons List.take_zero List.drop_succ_cons List.drop_zero List.take_nil List.drop_nil List.headD_cons List.getD_cons_zero List.getD_cons_succ List.mem_cons List.not_mem_nil List.getElem?_cons_zero List.getElem?_cons_succ List.toList_toArray Option.getD_some Option.getD_none Option.bind_some Option.bind_none Option.map_some Option.map_none Option.getD Option.toList Nat.zero_add Nat.add_zero Nat.zero_le Nat.le_refl if_true if_false ite_self true_and and_true false_and and_false true_or or_true false_or or_false not_true_eq_false not_false_eq_true ne_eq cond_true cond_false Bool.true_eq_false Bool.false_eq_true forall_const decide_true decide_false implies_true true_implies and_self or_self Nat.succ_ne_zero Int.toNat_natCast Int.natCast_nonneg List.length_map decide_eq_true_eq AV.views AV.view AV.viewPs AV.viewP arrsOnly newNames List.length_append List.append_assoc Bool.not_true Bool.not_false AV.ok2 aBuild fillR fillP aBuildSlice dense elP aAppend esOf esOfP List.forall_mem_cons forall_eq_or_imp forall_eq zD zDp map_take' map_drop' iD uD bD tD lD iD_len uD_len bD_len tD_len lD_len LB Int.cast_ofNat_Int Int.natCast_zero Int.natCast_one head_len all_len List.head?_cons List.head?_nil Bool.not_not eq_self List.take_length zv_str aConv byteOf isByte map_bcell bytes_all str_map cellsEq cellsP AV.kd Bool.and_true Bool.true_and Bool.and_false Bool.false_and ti2 ti3 ti4 ti5 ti6 ti7 ti8 ti9 ti10 ti11 ti12 ti13 ti14 ti15 ti16 ti17 ti18 ti19 ti21 ti22 ti23 ti25 ti26 ti27 ti31 ti32 ti41 ti51 ti52 ti53 ti54 ti56 ti58 ti60 ti61 ti62 ti67 ti68 ti71 ti72 ti79 ti80 ti81 ti82 ti83 ti84 ti85 ti89 ti93 ti94 ti95 ti110 ti124 ti125 ti126 ti127 ti128 ti129 ti130 ti131 ti133 ti134 ti135 ti136 ti137 Row.D TRange.D Ref.D Form.D Part.D TItem.D Row.D_len TRange.D_len Ref.D_len Form.D_len Part.D_len TItem.D_len zs_ zs_48_49_50_51_52_53_54_55_56_57_48_49_50_51_52_53_54_55_56_57_48_49_50_51_52_53_54_55_56_57_48_49_50_51_52_53_54_55_56_57_120 zs_113 zs_116_97_98_9 eqf85_00
noncomputable def slices_ContainsFunc_Item__Rows_1 (v1 : List TItem) : Option (Bool) :=
  (slices_IndexFunc_Item__Rows_1 v1).bind fun v4 => some (decide (v4 ≥ 0) : Bool)
theorem slices_ContainsFunc_Item__Rows_1_ok (v1 : List TItem) (r : Bool) (hx : slices_ContainsFunc_Item__Rows_1 v1 = some r) :
    ACalls Try.prog 62 [.d (.sl (List.map TItem.D v1)), .fn 63 []] [] (.d (.bool r)) [] := by
  refine ACalls.of_sem (n := 9) 0 [4] (fn := Try.f62) Try.func62 rfl rfl (.one rfl) rfl (by simp) (by intro i; simp only [hget]; (repeat' split) <;> simp <;> omega) ?_
  unfold slices_ContainsFunc_Item__Rows_1 at hx
  refine Walk.seq (Walk.region' rfl fun K hK => ?_)
  simp only [go_sem, seval]
  refine hK _ ?_
  clear hK K
  refine Walk.seq (Walk.region' rfl fun K hK => ?_)
  obtain ⟨v4, h2, hx⟩ := bind_elim hx
  simp only [go_sem, seval]
  refine VCl.pure rfl (by simp only [go_sem, seval]; try simp) (slices_IndexFunc_Item__Rows_1_ok v1 _ h2) (by simp only [go_sem, seval]; try simp) (by simp only [go_sem, seval]; try simp) (by simp only [go_sem, seval]; try simp) (by simp only [go_sem, seval]; try simp) (by simp only [go_sem, seval]; try simp) (by simp only [go_sem, seval]; try simp) ?_
  simp only [go_sem, seval]
  refine hK _ ?_
  clear hK K
  obtain rfl := Option.some.inj hx
  exact Walk.ret ⟨by simp, by simp⟩
noncomputable def blueprint_Rows_2 (v1 : Int) (v2 : Int) (v3 : Int) (v4 : Int) : Option (Unit) :=
  some (() : Unit)
theorem blueprint_Rows_2_ok (v1 : Int) (v2 : Int) (v3 : Int) (v4 : Int) (r : Unit) (hx : blueprint_Rows_2 v1 v2 v3 v4 = some r) :
    ACalls Try.prog 66 [.agg [.d (.int .i64 v1), .d (.int .i64 v2), .d (.int .i64 v3)], .d (.int .i64 v4)] [] (.d (.int .i64 1)) [] := by
  refine ACalls.of_sem (n := 5) 0 [4] (fn := Try.f66) Try.func66 rfl rfl (.one rfl) rfl (by simp) (by intro i; simp only [hget]; (repeat' split) <;> simp <;> omega) ?_
  unfold blueprint_Rows_2 at hx
  refine Walk.seq (Walk.region' rfl fun K hK => ?_)
  simp only [go_sem, seval]
  refine hK _ ?_
  clear hK K
  refine Walk.seq (Walk.region' rfl fun K hK => ?_)
  simp only [go_sem, seval]
  refine hK _ ?_
  clear hK K
  obtain rfl := Option.some.inj hx
  exact Walk.ret ⟨by simp, by simp⟩
noncomputable def blueprint_table_add__Rows_2_l1 (v1 : List TItem) (v133 : TRange) (v107 : List Row) (v106 : Int) (v152 : Int) (v153 : List Int) : Option ((Int × List Int) ⊕ ((Int × List Row) ⊕ (List Row))) :=
  bif decide (v152 < (v1.length : Int)) then ((blueprint_Rows_2 v133.Index v133.Least v133.Most v152).bind fun v156 => (rd v153 v152).bind fun v157 => contO ((IntKind.i64.wrap (v152 + 1), (v153.set (v152).toNat 1)) : Int × List Int)) else (exitO (chk ((v107.length + 1) * 40 ≤ 140737488355328) (contO ((IntKind.i64.wrap (v106 + 1), (v107 ++ [(Row.mk v153 v133.Least v133.Most)])) : Int × List Row))))
noncomputable def blueprint_table_add__Rows_2_l0 (v2 : List TRange) (v1 : List TItem) (v106 : Int) (v107 : List Row) : Option ((Int × List Row) ⊕ (List Row)) :=
  bif decide (v106 < (v2.length : Int)) then ((rd v2 v106).bind fun v133 => chk ((0 : Int) ≤ (v1.length : Int) ∧ (v1.length : Int) = (v1.length : Int) ∧ 8 * (v1.length : Int) ≤ 281474976710656 ∧ (v1.length : Int) ≤ 281474976710656) (iter (fun g : Int × List Int => blueprint_table_add__Rows_2_l1 v1 v133 v107 v106 g.1 g.2) (0, (List.replicate ((v1.length : Int)).toNat (0 : Int))))) else (exitO (some (v107 : List Row)))
noncomputable def blueprint_table_add__Rows_2 (v1 : List TItem) (v2 : List TRange) : Option (List Row) :=
  iter (fun g : Int × List Row => blueprint_table_add__Rows_2_l0 v2 v1 g.1 g.2) (0, [])
theorem blueprint_table_add__Rows_2_ok (v1 : List TItem) (v2 : List TRange) (r : List Row) (hx : blueprint_table_add__Rows_2 v1 v2 = some r) :
    ACalls Try.prog 65 [.box 0 0, .fn 66 [], .d (.sl (List.map TRange.D v2))] [(0, some (.box [.d (.sl (List.map TItem.D v1)), .nils]))] (.tup []) [(0, some (.box [.d (.sl (List.map TItem.D v1)), .arr 2000 0 r.length])), (2000, some (.arr 32 3 (List.map Row.D r)))] := by
  refine ACalls.of_sem (n := 55) 1 [] (fn := Try.f65) Try.func65 rfl rfl (.zero rfl) rfl (by simp) (by intro i; simp only [hget]; (repeat' split) <;> simp <;> omega) ?_
  unfold blueprint_table_add__Rows_2 at hx
  refine Walk.seq (Walk.region' rfl fun K hK => ?_)
  simp only [go_sem, seval]
  refine hK _ ?_
  clear hK K
  refine Walk.block (Walk.loop ?_)
  refine Walk.weaken ⟨[(0, .box 0 0), (1, .fn 66 []), (10, .d (.sl (List.map TRange.D v2))), (11, .d (.int .i64 (v2.length : Int))), (12, .d (.int .i64 0))], [(0, some (.box [.d (.sl (List.map TItem.D v1)), .nils]))]⟩ (by simp <;> omega) (by simp <;> omega) ?_
  refine Walk.up 1002 32 3 [(0, .box 0 0), (1, .fn 66 []), (10, .d (.sl (List.map TRange.D v2))), (11, .d (.int .i64 (v2.length : Int))), (12, .d (.int .i64 0))] [(0, some (.box [.d (.sl (List.map TItem.D v1)), .arr 1002 0 0]))] (by simp) (by simp) (by omega) (by simp) (by simp) (by simp) ?_
  refine Walk.weaken ⟨[(0, .box 0 0), (1, .fn 66 []), (10, .d (.sl (List.map TRange.D v2))), (11, .d (.int .i64 (v2.length : Int))), (12, .d (.int .i64 0))], [(0, some (.box [.d (.sl (List.map TItem.D v1)), .arr 1002 0 0])), (1002, some (.arr 32 3 (List.map Row.D [])))]⟩ (by simp <;> omega) (by simp <;> omega) ?_
  refine Walk.iter (σ := Int × List Row) (fun g => ⟨[(0, .box 0 0), (1, .fn 66 []), (10, .d (.sl (List.map TRange.D v2))), (11, .d (.int .i64 (v2.length : Int))), (12, .d (.int .i64 g.1))], [(0, some (.box [.d (.sl (List.map TItem.D v1)), .arr 1002 0 g.2.length])), (1002, some (.arr 32 3 (List.map Row.D g.2)))]⟩) (fun g : Int × List Row => blueprint_table_add__Rows_2_l0 v2 v1 g.1 g.2) _ (fun g y506 hx ih418 hr419 => ?_) (0, []) hx
  obtain ⟨v106, v107⟩ := g
  unfold blueprint_table_add__Rows_2_l0 at hx
  try dsimp only at hx ⊢
  refine Walk.seq (Walk.region' rfl fun K hK => ?_)
  simp only [go_sem, seval]
  refine hK _ ?_
  clear hK K
  refine Walk.seq (Walk.condO rfl hx (fun c421 hx => ?_) (fun c421 hx => ?_))
  · refine Walk.skip (Walk.seq (Walk.block (Walk.seq (Walk.region' rfl fun K hK => ?_))))
    obtain ⟨v133, r422, a423, b424, c425, hx⟩ := rd_elim hx
    simp only [go_sem, seval, c421, a423, b424, c425]
    repeat refine And.intro (by first | omega | (simp; done) | (simp; omega)) ?_
    refine hK _ ?_
    clear hK K
    refine Walk.seq (Walk.drawn' rfl mixed fun K hK => ?_)
    obtain ⟨k426, hx⟩ := chk_elim hx
    simp only [go_sem, seval, c421, a423, b424, c425, k426]
    repeat refine And.intro (by first | omega | (simp; done) | (simp; omega)) ?_
    refine hK _ _ (by kernel_rfl) (by simp [c421, a423, b424, c425, k426]) ?_
    clear hK K
    refine Walk.weaken ⟨[(0, .box 0 0), (1, .fn 66 []), (7, .box 8 0), (8, .box 9 0), (10, .d (.sl (List.map TRange.D v2))), (11, .d (.int .i64 (v2.length : Int))), (12, .d (.int .i64 v106))], [(0, some (.box [.d (.sl (List.map TItem.D v1)), .arr 1002 0 v107.length])), (8, some (.box [.d (.int .i64 v133.Index), .d (.int .i64 v133.Least), .d (.int .i64 v133.Most)])), (9, some (.box [.arr 22 0 (((List.replicate ((v1.length : Int)).toNat (0 : Int))).length), .d (.int .i64 v133.Least), .d (.int .i64 v133.Most)])), (22, some (.arr 3 1 (List.map iD ((List.replicate ((v1.length : Int)).toNat (0 : Int)))))), (1002, some (.arr 32 3 (List.map Row.D v107)))]⟩ (by simp [c421, a423, b424, c425, k426] <;> omega) (by simp [c421, a423, b424, c425, k426] <;> omega) ?_
    refine Walk.seq (Walk.seq (Walk.region' rfl fun K hK => ?_))
    simp only [go_sem, seval, c421, a423, b424, c425, k426]
    refine hK _ ?_
    clear hK K
    refine Walk.block (Walk.loop ?_)
    refine Walk.weaken ⟨[(0, .box 0 0), (1, .fn 66 []), (7, .box 8 0), (8, .box 9 0), (10, .d (.sl (List.map TRange.D v2))), (11, .d (.int .i64 (v2.length : Int))), (12, .d (.int .i64 v106)), (31, .d (.int .i64 (v1.length : Int))), (32, .d (.int .i64 0))], [(0, some (.box [.d (.sl (List.map TItem.D v1)), .arr 1002 0 v107.length])), (8, some (.box [.d (.int .i64 v133.Index), .d (.int .i64 v133.Least), .d (.int .i64 v133.Most)])), (9, some (.box [.arr 22 0 (((List.replicate ((v1.length : Int)).toNat (0 : Int))).length), .d (.int .i64 v133.Least), .d (.int .i64 v133.Most)])), (22, some (.arr 3 1 (List.map iD ((List.replicate ((v1.length : Int)).toNat (0 : Int)))))), (1002, some (.arr 32 3 (List.map Row.D v107)))]⟩ (by simp [c421, a423, b424, c425, k426] <;> omega) (by simp [c421, a423, b424, c425, k426] <;> omega) ?_
    refine Walk.iter (σ := Int × List Int) (fun g => ⟨[(0, .box 0 0), (1, .fn 66 []), (7, .box 8 0), (8, .box 9 0), (10, .d (.sl (List.map TRange.D v2))), (11, .d (.int .i64 (v2.length : Int))), (12, .d (.int .i64 v106)), (31, .d (.int .i64 (v1.length : Int))), (32, .d (.int .i64 g.1))], [(0, some (.box [.d (.sl (List.map TItem.D v1)), .arr 1002 0 v107.length])), (8, some (.box [.d (.int .i64 v133.Index), .d (.int .i64 v133.Least), .d (.int .i64 v133.Most)])), (9, some (.box [.arr 22 0 g.2.length, .d (.int .i64 v133.Least), .d (.int .i64 v133.Most)])), (22, some (.arr 3 1 (List.map iD g.2))), (1002, some (.arr 32 3 (List.map Row.D v107)))]⟩) (fun g : Int × List Int => blueprint_table_add__Rows_2_l1 v1 v133 v107 v106 g.1 g.2) _ (fun g y503 hx ih491 hr492 => ?_) (0, (List.replicate ((v1.length : Int)).toNat (0 : Int))) hx
    obtain ⟨v152, v153⟩ := g
    unfold blueprint_table_add__Rows_2_l1 at hx
    try dsimp only at hx ⊢
    refine Walk.seq (Walk.region' rfl fun K hK => ?_)
    simp only [go_sem, seval, c421, a423, b424, c425, k426]
    refine hK _ ?_
    clear hK K
    refine Walk.seq (Walk.condO rfl hx (fun c494 hx => ?_) (fun c494 hx => ?_))
    · refine Walk.skip (Walk.seq (Walk.block (Walk.seq (Walk.region' rfl fun K hK => ?_))))
      simp only [go_sem, seval, c421, a423, b424, c425, k426, c494]
      refine hK _ ?_
      clear hK K
      refine Walk.drawn' rfl mixed fun K hK => ?_
      obtain ⟨v156, h495, hx⟩ := bind_elim hx
      simp only [go_sem, seval, c421, a423, b424, c425, k426, c494]
      refine VCl.pure rfl (by simp only [go_sem, seval, c421, a423, b424, c425, k426, c494]; try simp) (blueprint_Rows_2_ok v133.Index v133.Least v133.Most v152 _ h495) (by simp only [go_sem, seval, c421, a423, b424, c425, k426, c494]; try simp) (by simp only [go_sem, seval, c421, a423, b424, c425, k426, c494]; try simp) (by simp only [go_sem, seval, c421, a423, b424, c425, k426, c494]; try simp) (by simp only [go_sem, seval, c421, a423, b424, c425, k426, c494]; try simp) (by simp only [go_sem, seval, c421, a423, b424, c425, k426, c494]; try simp) (by simp only [go_sem, seval, c421, a423, b424, c425, k426, c494]; try simp) ?_
      obtain ⟨v157, r496, a497, b498, c499, hx⟩ := rd_elim hx
      simp only [go_sem, seval, c421, a423, b424, c425, k426, c494, a497, b498, c499]
      repeat refine And.intro (by first | omega | (simp; done) | (simp; omega)) ?_
      refine hK _ _ (by kernel_rfl) (by simp [c421, a423, b424, c425, k426, c494, a497, b498, c499]) ?_
      clear hK K
      refine Walk.weaken ⟨[(0, .box 0 0), (1, .fn 66 []), (7, .box 8 0), (8, .box 9 0), (10, .d (.sl (List.map TRange.D v2))), (11, .d (.int .i64 (v2.length : Int))), (12, .d (.int .i64 v106)), (31, .d (.int .i64 (v1.length : Int))), (32, .d (.int .i64 v152))], [(0, some (.box [.d (.sl (List.map TItem.D v1)), .arr 1002 0 v107.length])), (8, some (.box [.d (.int .i64 v133.Index), .d (.int .i64 v133.Least), .d (.int .i64 v133.Most)])), (9, some (.box [.arr 22 0 (((v153.set (v152).toNat 1)).length), .d (.int .i64 v133.Least), .d (.int .i64 v133.Most)])), (22, some (.arr 3 1 (List.map iD ((v153.set (v152).toNat 1))))), (1002, some (.arr 32 3 (List.map Row.D v107)))]⟩ (by simp [c421, a423, b424, c425, k426, c494, a497, b498, c499] <;> omega) (by simp [c421, a423, b424, c425, k426, c494, a497, b498, c499] <;> omega) ?_
      refine Walk.inBlock (Walk.region' rfl fun K hK => ?_)
      simp only [go_sem, seval, c421, a423, b424, c425, k426, c494, a497, b498, c499]
      refine hK _ ?_
      clear hK K
      exact Walk.weaken _ (by simp [c421, a423, b424, c425, k426, c494, a497, b498, c499] <;> omega) (by simp [c421, a423, b424, c425, k426, c494, a497, b498, c499] <;> omega) (ih491 _ (cont_elim hx))
    refine Walk.exit rfl ?_
    obtain ⟨z500, e501, hx⟩ := exit_elim hx
    rw [hr492 z500 e501] at hx
    refine Walk.drawn' rfl mixed fun K hK => ?_
    obtain ⟨k502, hx⟩ := chk_elim hx
    simp only [go_sem, seval, c421, a423, b424, c425, k426, c494, k502]
    repeat refine And.intro (by first | omega | (simp; done) | (simp; omega)) ?_
    refine hK _ _ (by kernel_rfl) (by simp [c421, a423, b424, c425, k426, c494, k502]) ?_
    clear hK K
    refine Walk.weaken ⟨[(0, .box 0 0), (1, .fn 66 []), (10, .d (.sl (List.map TRange.D v2))), (11, .d (.int .i64 (v2.length : Int))), (12, .d (.int .i64 v106))], [(0, some (.box [.d (.sl (List.map TItem.D v1)), .arr 1002 0 (((v107 ++ [(Row.mk v153 v133.Least v133.Most)])).length)])), (1002, some (.arr 32 3 (List.map Row.D ((v107 ++ [(Row.mk v153 v133.Least v133.Most)])))))]⟩ (by simp [c421, a423, b424, c425, k426, c494, k502] <;> omega) (by simp [c421, a423, b424, c425, k426, c494, k502] <;> omega) ?_
    refine Walk.inBlock (Walk.region' rfl fun K hK => ?_)
    simp only [go_sem, seval, c421, a423, b424, c425, k426, c494, k502]
    refine hK _ ?_
    clear hK K
    exact Walk.weaken _ (by simp [c421, a423, b424, c425, k426, c494, k502] <;> omega) (by simp [c421, a423, b424, c425, k426, c494, k502] <;> omega) (ih418 _ (cont_elim hx))
  refine Walk.exit rfl ?_
  obtain ⟨z504, e505, hx⟩ := exit_elim hx
  rw [hr419 z504 e505] at hx
  refine Walk.weaken ⟨[], [(0, some (.box [.d (.sl (List.map TItem.D v1)), .arr 1002 0 v107.length])), (1002, some (.arr 32 3 (List.map Row.D v107)))]⟩ (by simp [c421] <;> omega) (by simp [c421] <;> omega) ?_
  refine Walk.rename 1002 2000 (by omega) (by omega) (by simp) (by simp) ?_
  simp only [renE, renL, AV.ren, AV.rens, AObj.ren, swp, Option.map_some, reduceIte, Nat.reduceEqDiff]
  obtain rfl := Option.some.inj hx
  exact Walk.done ⟨by simp [c421], by simp [c421]⟩
noncomputable def item_sum_l0 (v1 : List Part) (v9 : Int) (v10 : Int) : Option ((Int × Int) ⊕ (Int)) :=
  bif decide (v10 < (v1.length : Int)) then ((rd v1 v10).bind fun v12 => contO ((IntKind.i64.wrap (v9 + v12.Max), IntKind.i64.wrap (v10 + 1)) : Int × Int)) else (exitO (some (v9 : Int)))
noncomputable def item_sum (v1 : List Part) : Option (Int) :=
  iter (fun g : Int × Int => item_sum_l0 v1 g.1 g.2) (0, 0)
theorem item_sum_ok (v1 : List Part) (r : Int) (hx : item_sum v1 = some r) :
    ACalls Try.prog 101 [.d (.sl (List.map Part.D v1))] [] (.d (.int .i64 r)) [] := by
  refine ACalls.of_sem (n := 18) 0 [2] (fn := Try.f101) Try.func101 rfl rfl (.one rfl) rfl (by simp) (by intro i; simp only [hget]; (repeat' split) <;> simp <;> omega) ?_
  unfold item_sum at hx
  refine Walk.seq (Walk.region' rfl fun K hK => ?_)
  simp only [go_sem, seval]
  refine hK _ ?_
  clear hK K
  refine Walk.seq (Walk.region' rfl fun K hK => ?_)
  simp only [go_sem, seval]
  refine hK _ ?_
  clear hK K
  refine Walk.seq (Walk.seq (Walk.region' rfl fun K hK => ?_))
  simp only [go_sem, seval]
  refine hK _ ?_
  clear hK K
  refine Walk.block (Walk.loop ?_)
  refine Walk.weaken ⟨[(3, .d (.int .i64 0)), (6, .d (.sl (List.map Part.D v1))), (7, .d (.int .i64 (v1.length : Int))), (8, .d (.int .i64 0))], []⟩ (by simp <;> omega) (by simp <;> omega) ?_
  refine Walk.iter (σ := Int × Int) (fun g => ⟨[(3, .d (.int .i64 g.1)), (6, .d (.sl (List.map Part.D v1))), (7, .d (.int .i64 (v1.length : Int))), (8, .d (.int .i64 g.2))], []⟩) (fun g : Int × Int => item_sum_l0 v1 g.1 g.2) _ (fun g y45 hx ih35 hr36 => ?_) (0, 0) hx
  obtain ⟨v9, v10⟩ := g
  unfold item_sum_l0 at hx
  try dsimp only at hx ⊢
  refine Walk.seq (Walk.region' rfl fun K hK => ?_)
  simp only [go_sem, seval]
  refine hK _ ?_
  clear hK K
  refine Walk.seq (Walk.condO rfl hx (fun c38 hx => ?_) (fun c38 hx => ?_))
  · refine Walk.skip (Walk.seq (Walk.block (Walk.seq (Walk.region' rfl fun K hK => ?_))))
    obtain ⟨v12, r39, a40, b41, c42, hx⟩ := rd_elim hx
    simp only [go_sem, seval, c38, a40, b41, c42]
    repeat refine And.intro (by first | omega | (simp; done) | (simp; omega)) ?_
    refine hK _ ?_
    clear hK K
    refine Walk.region' rfl fun K hK => ?_
    simp only [go_sem, seval, c38, a40, b41, c42]
    refine hK _ ?_
    clear hK K
    refine Walk.inBlock (Walk.region' rfl fun K hK => ?_)
    simp only [go_sem, seval, c38, a40, b41, c42]
    refine hK _ ?_
    clear hK K
    exact Walk.weaken _ (by simp [c38, a40, b41, c42] <;> omega) (by simp [c38, a40, b41, c42] <;> omega) (ih35 _ (cont_elim hx))
  refine Walk.exit rfl ?_
  obtain ⟨z43, e44, hx⟩ := exit_elim hx
  rw [hr36 z43 e44] at hx
  refine Walk.seq (Walk.region' rfl fun K hK => ?_)
  simp only [go_sem, seval, c38]
  refine hK _ ?_
  clear hK K
  obtain rfl := Option.some.inj hx
  exact Walk.ret ⟨by simp [c38], by simp [c38]⟩
noncomputable def item_Total (v1 : Int) (v2 : Int) (v3 : List UInt8) (v4 : List Part) (v5 : List Int) : Option (Int) :=
  (item_Check v1 v2 v3 v4 v5).bind fun v9 => bif decide (¬ v9 = 0) then (some (0 : Int)) else ((item_sum v4).bind fun v10 => some (v10 : Int))
theorem item_Total_ok (v1 : Int) (v2 : Int) (v3 : List UInt8) (v4 : List Part) (v5 : List Int) (r : Int) (hx : item_Total v1 v2 v3 v4 v5 = some r) :
    ACalls Try.prog 68 [.agg [.d (.int .i64 v1), .d (.int .i64 v2), .d (.str v3), .d (.sl (List.map Part.D v4)), .d (.sl (List.map iD v5))]] [] (.d (.int .i64 r)) [] := by
  refine ACalls.of_sem (n := 9) 0 [2] (fn := Try.f68) Try.func68 rfl rfl (.one rfl) rfl (by simp) (by intro i; simp only [hget]; (repeat' split) <;> simp <;> omega) ?_
  unfold item_Total at hx
  refine Walk.seq (Walk.region' rfl fun K hK => ?_)
  simp only [go_sem, seval]
  refine hK _ ?_
  clear hK K
  refine Walk.seq (Walk.seq (Walk.region' rfl fun K hK => ?_))
  obtain ⟨v9, h4, hx⟩ := bind_elim hx
  simp only [go_sem, seval]
  refine VCl.pure rfl (by simp only [go_sem, seval]; try simp) (item_Check_ok v1 v2 v3 v4 v5 _ h4) (by simp only [go_sem, seval]; try simp) (by simp only [go_sem, seval]; try simp) (by simp only [go_sem, seval]; try simp) (by simp only [go_sem, seval]; try simp) (by simp only [go_sem, seval]; try simp) (by simp only [go_sem, seval]; try simp) ?_
  simp only [go_sem, seval]
  refine hK _ ?_
  clear hK K
  refine Walk.condO rfl hx (fun c5 hx => ?_) (fun c5 hx => ?_)
  · refine Walk.seq (Walk.region' rfl fun K hK => ?_)
    simp only [go_sem, seval, c5]
    refine hK _ ?_
    clear hK K
    obtain rfl := Option.some.inj hx
    exact Walk.ret ⟨by simp [c5], by simp [c5]⟩
  refine Walk.skip (Walk.seq (Walk.region' rfl fun K hK => ?_))
  obtain ⟨v10, h6, hx⟩ := bind_elim hx
  simp only [go_sem, seval, c5]
  refine VCl.pure rfl (by simp only [go_sem, seval, c5]; try simp) (item_sum_ok v4 _ h6) (by simp only [go_sem, seval, c5]; try simp) (by simp only [go_sem, seval, c5]; try simp) (by simp only [go_sem, seval, c5]; try simp) (by simp only [go_sem, seval, c5]; try simp) (by simp only [go_sem, seval, c5]; try simp) (by simp only [go_sem, seval, c5]; try simp) ?_
  simp only [go_sem, seval, c5]
  refine hK _ ?_
  clear hK K
  obtain rfl := Option.some.inj hx
  exact Walk.ret ⟨by simp [c5], by simp [c5]⟩
noncomputable def blueprint_Rows_3 (v1 : Int) (v2 : Int) (v3 : Int) (v4 : Int) (v5 : List TItem) : Option (Int) :=
  (rd v5 v4).bind fun v9 => (item_Total v9.ID v9.Version v9.Stem v9.Parts v9.Enemies).bind fun v10 => some (v10 : Int)
theorem blueprint_Rows_3_ok (v1 : Int) (v2 : Int) (v3 : Int) (v4 : Int) (v5 : List TItem) (r : Int) (hx : blueprint_Rows_3 v1 v2 v3 v4 v5 = some r) :
    ACalls Try.prog 67 [.agg [.d (.int .i64 v1), .d (.int .i64 v2), .d (.int .i64 v3)], .d (.int .i64 v4), .box 0 0] [(0, some (.box [.d (.sl (List.map TItem.D v5))]))] (.d (.int .i64 r)) [(0, some (.box [.d (.sl (List.map TItem.D v5))]))] := by
  refine ACalls.of_sem (n := 11) 1 [5] (fn := Try.f67) Try.func67 rfl rfl (.one rfl) rfl (by simp) (by intro i; simp only [hget]; (repeat' split) <;> simp <;> omega) ?_
  unfold blueprint_Rows_3 at hx
  refine Walk.seq (Walk.region' rfl fun K hK => ?_)
  simp only [go_sem, seval]
  refine hK _ ?_
  clear hK K
  refine Walk.seq (Walk.region' rfl fun K hK => ?_)
  obtain ⟨v9, r6, a7, b8, c9, hx⟩ := rd_elim hx
  obtain ⟨v10, h10, hx⟩ := bind_elim hx
  simp only [go_sem, seval, a7, b8, c9]
  repeat refine And.intro (by first | omega | (simp; done) | (simp; omega)) ?_
  refine VCl.pure rfl (by simp only [go_sem, seval, a7, b8, c9]; try simp) (item_Total_ok v9.ID v9.Version v9.Stem v9.Parts v9.Enemies _ h10) (by simp only [go_sem, seval, a7, b8, c9]; try simp) (by simp only [go_sem, seval, a7, b8, c9]; try simp) (by simp only [go_sem, seval, a7, b8, c9]; try simp) (by simp only [go_sem, seval, a7, b8, c9]; try simp) (by simp only [go_sem, seval, a7, b8, c9]; try simp) (by simp only [go_sem, seval, a7, b8, c9]; try simp) ?_
  simp only [go_sem, seval, a7, b8, c9]
  refine hK _ ?_
  clear hK K
  obtain rfl := Option.some.inj hx
  exact Walk.ret ⟨by simp [a7, b8, c9], by simp [a7, b8, c9]⟩
noncomputable def blueprint_table_add__Rows_3_l1 (v1 : List TItem) (v135 : TRange) (v3 : List TItem) (v109 : List Row) (v108 : Int) (v154 : Int) (v155 : List Int) : Option ((Int × List Int) ⊕ ((Int × List Row) ⊕ (List Row))) :=
  bif decide (v154 < (v1.length : Int)) then ((blueprint_Rows_3 v135.Index v135.Least v135.Most v154 v3).bind fun v158 => (rd v155 v154).bind fun v159 => contO ((IntKind.i64.wrap (v154 + 1), (v155.set (v154).toNat v158)) : Int × List Int)) else (exitO (chk ((v109.length + 1) * 40 ≤ 140737488355328) (contO ((IntKind.i64.wrap (v108 + 1), (v109 ++ [(Row.mk v155 v135.Least v135.Most)])) : Int × List Row))))
noncomputable def blueprint_table_add__Rows_3_l0 (v4 : List TRange) (v1 : List TItem) (v3 : List TItem) (v108 : Int) (v109 : List Row) : Option ((Int × List Row) ⊕ (List Row)) :=
  bif decide (v108 < (v4.length : Int)) then ((rd v4 v108).bind fun v135 => chk ((0 : Int) ≤ (v1.length : Int) ∧ (v1.length : Int) = (v1.length : Int) ∧ 8 * (v1.length : Int) ≤ 281474976710656 ∧ (v1.length : Int) ≤ 281474976710656) (iter (fun g : Int × List Int => blueprint_table_add__Rows_3_l1 v1 v135 v3 v109 v108 g.1 g.2) (0, (List.replicate ((v1.length : Int)).toNat (0 : Int))))) else (exitO (some (v109 : List Row)))
noncomputable def blueprint_table_add__Rows_3 (v1 : List TItem) (v2 : List Row) (v3 : List TItem) (v4 : List TRange) : Option (List Row) :=
  iter (fun g : Int × List Row => blueprint_table_add__Rows_3_l0 v4 v1 v3 g.1 g.2) (0, v2)
theorem blueprint_table_add__Rows_3_ok (v1 : List TItem) (v2 : List Row) (v3 : List TItem) (v4 : List TRange) (r : List Row) (hx : blueprint_table_add__Rows_3 v1 v2 v3 v4 = some r) :
    ACalls Try.prog 65 [.box 0 0, .fn 67 [.box 2 0], .d (.sl (List.map TRange.D v4))] [(0, some (.box [.d (.sl (List.map TItem.D v1)), .arr 1 0 v2.length])), (1, some (.arr 32 3 (List.map Row.D v2))), (2, some (.box [.d (.sl (List.map TItem.D v3))]))] (.tup []) [(0, some (.box [.d (.sl (List.map TItem.D v1)), .arr 1 0 r.length])), (1, some (.arr 32 3 (List.map Row.D r))), (2, some (.box [.d (.sl (List.map TItem.D v3))]))] := by
  refine ACalls.of_sem (n := 55) 3 [] (fn := Try.f65) Try.func65 rfl rfl (.zero rfl) rfl (by simp) (by intro i; simp only [hget]; (repeat' split) <;> simp <;> omega) ?_
  unfold blueprint_table_add__Rows_3 at hx
  refine Walk.seq (Walk.region' rfl fun K hK => ?_)
  simp only [go_sem, seval]
  refine hK _ ?_
  clear hK K
  refine Walk.block (Walk.loop ?_)
  refine Walk.weaken ⟨[(0, .box 0 0), (1, .fn 67 [.box 2 0]), (10, .d (.sl (List.map TRange.D v4))), (11, .d (.int .i64 (v4.length : Int))), (12, .d (.int .i64 0))], [(0, some (.box [.d (.sl (List.map TItem.D v1)), .arr 1 0 v2.length])), (1, some (.arr 32 3 (List.map Row.D v2))), (2, some (.box [.d (.sl (List.map TItem.D v3))]))]⟩ (by simp <;> omega) (by simp <;> omega) ?_
  refine Walk.iter (σ := Int × List Row) (fun g => ⟨[(0, .box 0 0), (1, .fn 67 [.box 2 0]), (10, .d (.sl (List.map TRange.D v4))), (11, .d (.int .i64 (v4.length : Int))), (12, .d (.int .i64 g.1))], [(0, some (.box [.d (.sl (List.map TItem.D v1)), .arr 1 0 g.2.length])), (1, some (.arr 32 3 (List.map Row.D g.2))), (2, some (.box [.d (.sl (List.map TItem.D v3))]))]⟩) (fun g : Int × List Row => blueprint_table_add__Rows_3_l0 v4 v1 v3 g.1 g.2) _ (fun g y562 hx ih465 hr466 => ?_) (0, v2) hx
  obtain ⟨v108, v109⟩ := g
  unfold blueprint_table_add__Rows_3_l0 at hx
  try dsimp only at hx ⊢
  refine Walk.seq (Walk.region' rfl fun K hK => ?_)
  simp only [go_sem, seval]
  refine hK _ ?_
  clear hK K
  refine Walk.seq (Walk.condO rfl hx (fun c468 hx => ?_) (fun c468 hx => ?_))
  · refine Walk.skip (Walk.seq (Walk.block (Walk.seq (Walk.region' rfl fun K hK => ?_))))
    obtain ⟨v135, r469, a470, b471, c472, hx⟩ := rd_elim hx
    simp only [go_sem, seval, c468, a470, b471, c472]
    repeat refine And.intro (by first | omega | (simp; done) | (simp; omega)) ?_
    refine hK _ ?_
    clear hK K
    refine Walk.seq (Walk.drawn' rfl mixed fun K hK => ?_)
    obtain ⟨k473, hx⟩ := chk_elim hx
    simp only [go_sem, seval, c468, a470, b471, c472, k473]
    repeat refine And.intro (by first | omega | (simp; done) | (simp; omega)) ?_
    refine hK _ _ (by kernel_rfl) (by simp [c468, a470, b471, c472, k473]) ?_
    clear hK K
    refine Walk.weaken ⟨[(0, .box 0 0), (1, .fn 67 [.box 2 0]), (7, .box 10 0), (8, .box 11 0), (10, .d (.sl (List.map TRange.D v4))), (11, .d (.int .i64 (v4.length : Int))), (12, .d (.int .i64 v108))], [(0, some (.box [.d (.sl (List.map TItem.D v1)), .arr 1 0 v109.length])), (1, some (.arr 32 3 (List.map Row.D v109))), (2, some (.box [.d (.sl (List.map TItem.D v3))])), (10, some (.box [.d (.int .i64 v135.Index), .d (.int .i64 v135.Least), .d (.int .i64 v135.Most)])), (11, some (.box [.arr 24 0 (((List.replicate ((v1.length : Int)).toNat (0 : Int))).length), .d (.int .i64 v135.Least), .d (.int .i64 v135.Most)])), (24, some (.arr 3 1 (List.map iD ((List.replicate ((v1.length : Int)).toNat (0 : Int))))))]⟩ (by simp [c468, a470, b471, c472, k473] <;> omega) (by simp [c468, a470, b471, c472, k473] <;> omega) ?_
    refine Walk.seq (Walk.seq (Walk.region' rfl fun K hK => ?_))
    simp only [go_sem, seval, c468, a470, b471, c472, k473]
    refine hK _ ?_
    clear hK K
    refine Walk.block (Walk.loop ?_)
    refine Walk.weaken ⟨[(0, .box 0 0), (1, .fn 67 [.box 2 0]), (7, .box 10 0), (8, .box 11 0), (10, .d (.sl (List.map TRange.D v4))), (11, .d (.int .i64 (v4.length : Int))), (12, .d (.int .i64 v108)), (31, .d (.int .i64 (v1.length : Int))), (32, .d (.int .i64 0))], [(0, some (.box [.d (.sl (List.map TItem.D v1)), .arr 1 0 v109.length])), (1, some (.arr 32 3 (List.map Row.D v109))), (2, some (.box [.d (.sl (List.map TItem.D v3))])), (10, some (.box [.d (.int .i64 v135.Index), .d (.int .i64 v135.Least), .d (.int .i64 v135.Most)])), (11, some (.box [.arr 24 0 (((List.replicate ((v1.length : Int)).toNat (0 : Int))).length), .d (.int .i64 v135.Least), .d (.int .i64 v135.Most)])), (24, some (.arr 3 1 (List.map iD ((List.replicate ((v1.length : Int)).toNat (0 : Int))))))]⟩ (by simp [c468, a470, b471, c472, k473] <;> omega) (by simp [c468, a470, b471, c472, k473] <;> omega) ?_
    refine Walk.iter (σ := Int × List Int) (fun g => ⟨[(0, .box 0 0), (1, .fn 67 [.box 2 0]), (7, .box 10 0), (8, .box 11 0), (10, .d (.sl (List.map TRange.D v4))), (11, .d (.int .i64 (v4.length : Int))), (12, .d (.int .i64 v108)), (31, .d (.int .i64 (v1.length : Int))), (32, .d (.int .i64 g.1))], [(0, some (.box [.d (.sl (List.map TItem.D v1)), .arr 1 0 v109.length])), (1, some (.arr 32 3 (List.map Row.D v109))), (2, some (.box [.d (.sl (List.map TItem.D v3))])), (10, some (.box [.d (.int .i64 v135.Index), .d (.int .i64 v135.Least), .d (.int .i64 v135.Most)])), (11, some (.box [.arr 24 0 g.2.length, .d (.int .i64 v135.Least), .d (.int .i64 v135.Most)])), (24, some (.arr 3 1 (List.map iD g.2)))]⟩) (fun g : Int × List Int => blueprint_table_add__Rows_3_l1 v1 v135 v3 v109 v108 g.1 g.2) _ (fun g y559 hx ih546 hr547 => ?_) (0, (List.replicate ((v1.length : Int)).toNat (0 : Int))) hx
    obtain ⟨v154, v155⟩ := g
    unfold blueprint_table_add__Rows_3_l1 at hx
    try dsimp only at hx ⊢
    refine Walk.seq (Walk.region' rfl fun K hK => ?_)
    simp only [go_sem, seval, c468, a470, b471, c472, k473]
    refine hK _ ?_
    clear hK K
    refine Walk.seq (Walk.condO rfl hx (fun c549 hx => ?_) (fun c549 hx => ?_))
    · refine Walk.skip (Walk.seq (Walk.block (Walk.seq (Walk.region' rfl fun K hK => ?_))))
      simp only [go_sem, seval, c468, a470, b471, c472, k473, c549]
      refine hK _ ?_
      clear hK K
      refine Walk.drawn' rfl mixed fun K hK => ?_
      obtain ⟨v158, h550, hx⟩ := bind_elim hx
      have w551 := ((blueprint_Rows_3_ok v135.Index v135.Least v135.Most v154 v3 _ h550).swap 0 2)
      simp only [renE, renL, AV.ren, AV.rens, AObj.ren, swp, Option.map_some, reduceIte, Nat.reduceEqDiff] at w551
      simp only [go_sem, seval, c468, a470, b471, c472, k473, c549]
      refine VCl.sub [(2, some (.box [.d (.sl (List.map TItem.D v3))]))] [] rfl (by simp only [go_sem, seval, AV.viewXs, AV.viewX, avD, c468, a470, b471, c472, k473, c549]; try simp) (w551) (by simp [c468, a470, b471, c472, k473, c549]) (by simp [c468, a470, b471, c472, k473, c549]) (by simp [c468, a470, b471, c472, k473, c549]) (by simp [c468, a470, b471, c472, k473, c549]) (by simp [c468, a470, b471, c472, k473, c549]) (by simp [c468, a470, b471, c472, k473, c549]) (by simp [c468, a470, b471, c472, k473, c549]) (by simp [c468, a470, b471, c472, k473, c549]) (by simp [c468, a470, b471, c472, k473, c549]) (by simp [c468, a470, b471, c472, k473, c549]) ?_
      obtain ⟨v159, r552, a553, b554, c555, hx⟩ := rd_elim hx
      simp only [go_sem, seval, c468, a470, b471, c472, k473, c549, a553, b554, c555]
      repeat refine And.intro (by first | omega | (simp; done) | (simp; omega)) ?_
      refine hK _ _ (by kernel_rfl) (by simp [c468, a470, b471, c472, k473, c549, a553, b554, c555]) ?_
      clear hK K
      refine Walk.weaken ⟨[(0, .box 0 0), (1, .fn 67 [.box 2 0]), (7, .box 10 0), (8, .box 11 0), (10, .d (.sl (List.map TRange.D v4))), (11, .d (.int .i64 (v4.length : Int))), (12, .d (.int .i64 v108)), (31, .d (.int .i64 (v1.length : Int))), (32, .d (.int .i64 v154))], [(0, some (.box [.d (.sl (List.map TItem.D v1)), .arr 1 0 v109.length])), (1, some (.arr 32 3 (List.map Row.D v109))), (2, some (.box [.d (.sl (List.map TItem.D v3))])), (10, some (.box [.d (.int .i64 v135.Index), .d (.int .i64 v135.Least), .d (.int .i64 v135.Most)])), (11, some (.box [.arr 24 0 (((v155.set (v154).toNat v158)).length), .d (.int .i64 v135.Least), .d (.int .i64 v135.Most)])), (24, some (.arr 3 1 (List.map iD ((v155.set (v154).toNat v158)))))]⟩ (by simp [c468, a470, b471, c472, k473, c549, a553, b554, c555] <;> omega) (by simp [c468, a470, b471, c472, k473, c549, a553, b554, c555] <;> omega) ?_
      refine Walk.inBlock (Walk.region' rfl fun K hK => ?_)
      simp only [go_sem, seval, c468, a470, b471, c472, k473, c549, a553, b554, c555]
      refine hK _ ?_
      clear hK K
      exact Walk.weaken _ (by simp [c468, a470, b471, c472, k473, c549, a553, b554, c555] <;> omega) (by simp [c468, a470, b471, c472, k473, c549, a553, b554, c555] <;> omega) (ih546 _ (cont_elim hx))
    refine Walk.exit rfl ?_
    obtain ⟨z556, e557, hx⟩ := exit_elim hx
    rw [hr547 z556 e557] at hx
    refine Walk.drawn' rfl mixed fun K hK => ?_
    obtain ⟨k558, hx⟩ := chk_elim hx
    simp only [go_sem, seval, c468, a470, b471, c472, k473, c549, k558]
    repeat refine And.intro (by first | omega | (simp; done) | (simp; omega)) ?_
    refine hK _ _ (by kernel_rfl) (by simp [c468, a470, b471, c472, k473, c549, k558]) ?_
    clear hK K
    refine Walk.weaken ⟨[(0, .box 0 0), (1, .fn 67 [.box 2 0]), (10, .d (.sl (List.map TRange.D v4))), (11, .d (.int .i64 (v4.length : Int))), (12, .d (.int .i64 v108))], [(0, some (.box [.d (.sl (List.map TItem.D v1)), .arr 1 0 (((v109 ++ [(Row.mk v155 v135.Least v135.Most)])).length)])), (1, some (.arr 32 3 (List.map Row.D ((v109 ++ [(Row.mk v155 v135.Least v135.Most)]))))), (2, some (.box [.d (.sl (List.map TItem.D v3))]))]⟩ (by simp [c468, a470, b471, c472, k473, c549, k558] <;> omega) (by simp [c468, a470, b471, c472, k473, c549, k558] <;> omega) ?_
    refine Walk.inBlock (Walk.region' rfl fun K hK => ?_)
    simp only [go_sem, seval, c468, a470, b471, c472, k473, c549, k558]
    refine hK _ ?_
    clear hK K
    exact Walk.weaken _ (by simp [c468, a470, b471, c472, k473, c549, k558] <;> omega) (by simp [c468, a470, b471, c472, k473, c549, k558] <;> omega) (ih465 _ (cont_elim hx))
  refine Walk.exit rfl ?_
  obtain ⟨z560, e561, hx⟩ := exit_elim hx
  rw [hr466 z560 e561] at hx
  obtain rfl := Option.some.inj hx
  exact Walk.done ⟨by simp [c468], by simp [c468]⟩
noncomputable def blueprint_Rows_4_1 (v1 : Int) (v2 : Int) (v3 : Int) (v4 : Int) (v5 : Int) (v6 : Int) (v7 : Int) (v8 : Int) (v9 : Int) : Option (Bool) :=
  some (decide (v3 = v7) : Bool)
theorem blueprint_Rows_4_1_ok (v1 : Int) (v2 : Int) (v3 : Int) (v4 : Int) (v5 : Int) (v6 : Int) (v7 : Int) (v8 : Int) (v9 : Int) (r : Bool) (hx : blueprint_Rows_4_1 v1 v2 v3 v4 v5 v6 v7 v8 v9 = some r) :
    ACalls Try.prog 71 [.agg [.d (.int .i64 v1), .d (.int .i64 v2), .d (.int .i64 v3), .d (.int .i64 v4), .d (.int .i64 v5), .d (.int .i64 v6)], .box 0 0] [(0, some (.box [.d (.int .i64 v7), .d (.int .i64 v8), .d (.int .i64 v9)]))] (.d (.bool r)) [(0, some (.box [.d (.int .i64 v7), .d (.int .i64 v8), .d (.int .i64 v9)]))] := by
  refine ACalls.of_sem (n := 9) 1 [3] (fn := Try.f71) Try.func71 rfl rfl (.one rfl) rfl (by simp) (by intro i; simp only [hget]; (repeat' split) <;> simp <;> omega) ?_
  unfold blueprint_Rows_4_1 at hx
  refine Walk.seq (Walk.region' rfl fun K hK => ?_)
  simp only [go_sem, seval]
  refine hK _ ?_
  clear hK K
  refine Walk.seq (Walk.region' rfl fun K hK => ?_)
  simp only [go_sem, seval]
  refine hK _ ?_
  clear hK K
  obtain rfl := Option.some.inj hx
  exact Walk.ret ⟨by simp, by simp⟩
noncomputable def blueprint_marks__Rows_4_1_l0 (v4 : List Part) (v6 : Int) (v7 : Int) (v8 : Int) (v20 : Int) (v21 : Int) : Option ((Int × Int) ⊕ (Int)) :=
  bif decide (v21 < (v4.length : Int)) then ((rd v4 v21).bind fun v24 => (blueprint_Rows_4_1 v24.Kind v24.Max v24.Topic v24.Objective v24.Options v24.Key v6 v7 v8).bind fun v25 => bif v25 then (contO ((IntKind.i64.wrap (v20 + v24.Max), IntKind.i64.wrap (v21 + 1)) : Int × Int)) else (contO ((v20, IntKind.i64.wrap (v21 + 1)) : Int × Int))) else (exitO (some (v20 : Int)))
noncomputable def blueprint_marks__Rows_4_1 (v1 : Int) (v2 : Int) (v3 : List UInt8) (v4 : List Part) (v5 : List Int) (v6 : Int) (v7 : Int) (v8 : Int) : Option (Int) :=
  iter (fun g : Int × Int => blueprint_marks__Rows_4_1_l0 v4 v6 v7 v8 g.1 g.2) (0, 0)
theorem blueprint_marks__Rows_4_1_ok (v1 : Int) (v2 : Int) (v3 : List UInt8) (v4 : List Part) (v5 : List Int) (v6 : Int) (v7 : Int) (v8 : Int) (r : Int) (hx : blueprint_marks__Rows_4_1 v1 v2 v3 v4 v5 v6 v7 v8 = some r) :
    ACalls Try.prog 70 [.agg [.d (.int .i64 v1), .d (.int .i64 v2), .d (.str v3), .d (.sl (List.map Part.D v4)), .d (.sl (List.map iD v5))], .fn 71 [.box 0 0]] [(0, some (.box [.d (.int .i64 v6), .d (.int .i64 v7), .d (.int .i64 v8)]))] (.d (.int .i64 r)) [(0, some (.box [.d (.int .i64 v6), .d (.int .i64 v7), .d (.int .i64 v8)]))] := by
  refine ACalls.of_sem (n := 24) 1 [4] (fn := Try.f70) Try.func70 rfl rfl (.one rfl) rfl (by simp) (by intro i; simp only [hget]; (repeat' split) <;> simp <;> omega) ?_
  unfold blueprint_marks__Rows_4_1 at hx
  refine Walk.seq (Walk.region' rfl fun K hK => ?_)
  simp only [go_sem, seval]
  refine hK _ ?_
  clear hK K
  refine Walk.seq (Walk.region' rfl fun K hK => ?_)
  simp only [go_sem, seval]
  refine hK _ ?_
  clear hK K
  refine Walk.seq (Walk.seq (Walk.region' rfl fun K hK => ?_))
  simp only [go_sem, seval]
  refine hK _ ?_
  clear hK K
  refine Walk.block (Walk.loop ?_)
  refine Walk.weaken ⟨[(1, .fn 71 [.box 0 0]), (5, .d (.int .i64 0)), (9, .d (.sl (List.map Part.D v4))), (10, .d (.int .i64 (v4.length : Int))), (11, .d (.int .i64 0))], [(0, some (.box [.d (.int .i64 v6), .d (.int .i64 v7), .d (.int .i64 v8)]))]⟩ (by simp <;> omega) (by simp <;> omega) ?_
  refine Walk.iter (σ := Int × Int) (fun g => ⟨[(1, .fn 71 [.box 0 0]), (5, .d (.int .i64 g.1)), (9, .d (.sl (List.map Part.D v4))), (10, .d (.int .i64 (v4.length : Int))), (11, .d (.int .i64 g.2))], [(0, some (.box [.d (.int .i64 v6), .d (.int .i64 v7), .d (.int .i64 v8)]))]⟩) (fun g : Int × Int => blueprint_marks__Rows_4_1_l0 v4 v6 v7 v8 g.1 g.2) _ (fun g y57 hx ih45 hr46 => ?_) (0, 0) hx
  obtain ⟨v20, v21⟩ := g
  unfold blueprint_marks__Rows_4_1_l0 at hx
  try dsimp only at hx ⊢
  refine Walk.seq (Walk.region' rfl fun K hK => ?_)
  simp only [go_sem, seval]
  refine hK _ ?_
  clear hK K
  refine Walk.seq (Walk.condO rfl hx (fun c48 hx => ?_) (fun c48 hx => ?_))
  · refine Walk.skip (Walk.seq (Walk.block (Walk.seq (Walk.region' rfl fun K hK => ?_))))
    obtain ⟨v24, r49, a50, b51, c52, hx⟩ := rd_elim hx
    simp only [go_sem, seval, c48, a50, b51, c52]
    repeat refine And.intro (by first | omega | (simp; done) | (simp; omega)) ?_
    refine hK _ ?_
    clear hK K
    refine Walk.seq (Walk.region' rfl fun K hK => ?_)
    obtain ⟨v25, h53, hx⟩ := bind_elim hx
    simp only [go_sem, seval, c48, a50, b51, c52]
    refine VCl.sub [(0, some (.box [.d (.int .i64 v6), .d (.int .i64 v7), .d (.int .i64 v8)]))] [] rfl (by simp only [go_sem, seval, AV.viewXs, AV.viewX, avD, c48, a50, b51, c52]; try simp) (blueprint_Rows_4_1_ok v24.Kind v24.Max v24.Topic v24.Objective v24.Options v24.Key v6 v7 v8 _ h53) (by simp [c48, a50, b51, c52]) (by simp [c48, a50, b51, c52]) (by simp [c48, a50, b51, c52]) (by simp [c48, a50, b51, c52]) (by simp [c48, a50, b51, c52]) (by simp [c48, a50, b51, c52]) (by simp [c48, a50, b51, c52]) (by simp [c48, a50, b51, c52]) (by simp [c48, a50, b51, c52]) (by simp [c48, a50, b51, c52]) ?_
    simp only [go_sem, seval, c48, a50, b51, c52]
    refine hK _ ?_
    clear hK K
    refine Walk.weaken ⟨[(1, .fn 71 [.box 0 0]), (5, .d (.int .i64 v20)), (7, .box 8 0), (9, .d (.sl (List.map Part.D v4))), (10, .d (.int .i64 (v4.length : Int))), (11, .d (.int .i64 v21)), (17, .d (.bool v25))], [(0, some (.box [.d (.int .i64 v6), .d (.int .i64 v7), .d (.int .i64 v8)])), (8, some (.box [.d (.int .i64 v24.Kind), .d (.int .i64 v24.Max), .d (.int .i64 v24.Topic), .d (.int .i64 v24.Objective), .d (.int .i64 v24.Options), .d (.int .i64 v24.Key)]))]⟩ (by simp [c48, a50, b51, c52] <;> omega) (by simp [c48, a50, b51, c52] <;> omega) ?_
    refine Walk.condO rfl hx (fun c54 hx => ?_) (fun c54 hx => ?_)
    · refine Walk.region' rfl fun K hK => ?_
      simp only [go_sem, seval, c48, a50, b51, c52, c54]
      refine hK _ ?_
      clear hK K
      refine Walk.inBlock (Walk.region' rfl fun K hK => ?_)
      simp only [go_sem, seval, c48, a50, b51, c52, c54]
      refine hK _ ?_
      clear hK K
      exact Walk.weaken _ (by simp [c48, a50, b51, c52, c54] <;> omega) (by simp [c48, a50, b51, c52, c54] <;> omega) (ih45 _ (cont_elim hx))
    refine Walk.skip (Walk.inBlock (Walk.region' rfl fun K hK => ?_))
    simp only [go_sem, seval, c48, a50, b51, c52, c54]
    refine hK _ ?_
    clear hK K
    exact Walk.weaken _ (by simp [c48, a50, b51, c52, c54] <;> omega) (by simp [c48, a50, b51, c52, c54] <;> omega) (ih45 _ (cont_elim hx))
  refine Walk.exit rfl ?_
  obtain ⟨z55, e56, hx⟩ := exit_elim hx
  rw [hr46 z55 e56] at hx
  refine Walk.seq (Walk.region' rfl fun K hK => ?_)
  simp only [go_sem, seval, c48]
  refine hK _ ?_
  clear hK K
  obtain rfl := Option.some.inj hx
  exact Walk.ret ⟨by simp [c48], by simp [c48]⟩
noncomputable def blueprint_Rows_4 (v1 : Int) (v2 : Int) (v3 : Int) (v4 : Int) (v5 : List TItem) : Option (Int) :=
  (rd v5 v4).bind fun v9 => (blueprint_marks__Rows_4_1 v9.ID v9.Version v9.Stem v9.Parts v9.Enemies v1 v2 v3).bind fun v10 => some (v10 : Int)
theorem blueprint_Rows_4_ok (v1 : Int) (v2 : Int) (v3 : Int) (v4 : Int) (v5 : List TItem) (r : Int) (hx : blueprint_Rows_4 v1 v2 v3 v4 v5 = some r) :
    ACalls Try.prog 69 [.agg [.d (.int .i64 v1), .d (.int .i64 v2), .d (.int .i64 v3)], .d (.int .i64 v4), .box 0 0] [(0, some (.box [.d (.sl (List.map TItem.D v5))]))] (.d (.int .i64 r)) [(0, some (.box [.d (.sl (List.map TItem.D v5))]))] := by
  refine ACalls.of_sem (n := 12) 1 [5] (fn := Try.f69) Try.func69 rfl rfl (.one rfl) rfl (by simp) (by intro i; simp only [hget]; (repeat' split) <;> simp <;> omega) ?_
  unfold blueprint_Rows_4 at hx
  refine Walk.seq (Walk.region' rfl fun K hK => ?_)
  simp only [go_sem, seval]
  refine hK _ ?_
  clear hK K
  refine Walk.seq (Walk.region' rfl fun K hK => ?_)
  obtain ⟨v9, r7, a8, b9, c10, hx⟩ := rd_elim hx
  obtain ⟨v10, h11, hx⟩ := bind_elim hx
  have w12 := ((blueprint_marks__Rows_4_1_ok v9.ID v9.Version v9.Stem v9.Parts v9.Enemies v1 v2 v3 _ h11).swap 0 4)
  simp only [renE, renL, AV.ren, AV.rens, AObj.ren, swp, Option.map_some, reduceIte, Nat.reduceEqDiff] at w12
  simp only [go_sem, seval, a8, b9, c10]
  repeat refine And.intro (by first | omega | (simp; done) | (simp; omega)) ?_
  refine VCl.sub [(4, some (.box [.d (.int .i64 v1), .d (.int .i64 v2), .d (.int .i64 v3)]))] [] rfl (by simp only [go_sem, seval, AV.viewXs, AV.viewX, avD, a8, b9, c10]; try simp) (w12) (by simp [a8, b9, c10]) (by simp [a8, b9, c10]) (by simp [a8, b9, c10]) (by simp [a8, b9, c10]) (by simp [a8, b9, c10]) (by simp [a8, b9, c10]) (by simp [a8, b9, c10]) (by simp [a8, b9, c10]) (by simp [a8, b9, c10]) (by simp [a8, b9, c10]) ?_
  simp only [go_sem, seval, a8, b9, c10]
  refine hK _ ?_
  clear hK K
  refine Walk.weaken ⟨[(5, .d (.int .i64 v10))], [(0, some (.box [.d (.sl (List.map TItem.D v5))]))]⟩ (by simp [a8, b9, c10] <;> omega) (by simp [a8, b9, c10] <;> omega) ?_
  obtain rfl := Option.some.inj hx
  exact Walk.ret ⟨by simp [a8, b9, c10], by simp [a8, b9, c10]⟩
noncomputable def blueprint_table_add__Rows_4_l1 (v1 : List TItem) (v135 : TRange) (v3 : List TItem) (v109 : List Row) (v108 : Int) (v154 : Int) (v155 : List Int) : Option ((Int × List Int) ⊕ ((Int × List Row) ⊕ (List Row))) :=
  bif decide (v154 < (v1.length : Int)) then ((blueprint_Rows_4 v135.Index v135.Least v135.Most v154 v3).bind fun v158 => (rd v155 v154).bind fun v159 => contO ((IntKind.i64.wrap (v154 + 1), (v155.set (v154).toNat v158)) : Int × List Int)) else (exitO (chk ((v109.length + 1) * 40 ≤ 140737488355328) (contO ((IntKind.i64.wrap (v108 + 1), (v109 ++ [(Row.mk v155 v135.Least v135.Most)])) : Int × List Row))))
noncomputable def blueprint_table_add__Rows_4_l0 (v4 : List TRange) (v1 : List TItem) (v3 : List TItem) (v108 : Int) (v109 : List Row) : Option ((Int × List Row) ⊕ (List Row)) :=
  bif decide (v108 < (v4.length : Int)) then ((rd v4 v108).bind fun v135 => chk ((0 : Int) ≤ (v1.length : Int) ∧ (v1.length : Int) = (v1.length : Int) ∧ 8 * (v1.length : Int) ≤ 281474976710656 ∧ (v1.length : Int) ≤ 281474976710656) (iter (fun g : Int × List Int => blueprint_table_add__Rows_4_l1 v1 v135 v3 v109 v108 g.1 g.2) (0, (List.replicate ((v1.length : Int)).toNat (0 : Int))))) else (exitO (some (v109 : List Row)))
noncomputable def blueprint_table_add__Rows_4 (v1 : List TItem) (v2 : List Row) (v3 : List TItem) (v4 : List TRange) : Option (List Row) :=
  iter (fun g : Int × List Row => blueprint_table_add__Rows_4_l0 v4 v1 v3 g.1 g.2) (0, v2)
theorem blueprint_table_add__Rows_4_ok (v1 : List TItem) (v2 : List Row) (v3 : List TItem) (v4 : List TRange) (r : List Row) (hx : blueprint_table_add__Rows_4 v1 v2 v3 v4 = some r) :
    ACalls Try.prog 65 [.box 0 0, .fn 69 [.box 2 0], .d (.sl (List.map TRange.D v4))] [(0, some (.box [.d (.sl (List.map TItem.D v1)), .arr 1 0 v2.length])), (1, some (.arr 32 3 (List.map Row.D v2))), (2, some (.box [.d (.sl (List.map TItem.D v3))]))] (.tup []) [(0, some (.box [.d (.sl (List.map TItem.D v1)), .arr 1 0 r.length])), (1, some (.arr 32 3 (List.map Row.D r))), (2, some (.box [.d (.sl (List.map TItem.D v3))]))] := by
  refine ACalls.of_sem (n := 55) 3 [] (fn := Try.f65) Try.func65 rfl rfl (.zero rfl) rfl (by simp) (by intro i; simp only [hget]; (repeat' split) <;> simp <;> omega) ?_
  unfold blueprint_table_add__Rows_4 at hx
  refine Walk.seq (Walk.region' rfl fun K hK => ?_)
  simp only [go_sem, seval]
  refine hK _ ?_
  clear hK K
  refine Walk.block (Walk.loop ?_)
  refine Walk.weaken ⟨[(0, .box 0 0), (1, .fn 69 [.box 2 0]), (10, .d (.sl (List.map TRange.D v4))), (11, .d (.int .i64 (v4.length : Int))), (12, .d (.int .i64 0))], [(0, some (.box [.d (.sl (List.map TItem.D v1)), .arr 1 0 v2.length])), (1, some (.arr 32 3 (List.map Row.D v2))), (2, some (.box [.d (.sl (List.map TItem.D v3))]))]⟩ (by simp <;> omega) (by simp <;> omega) ?_
  refine Walk.iter (σ := Int × List Row) (fun g => ⟨[(0, .box 0 0), (1, .fn 69 [.box 2 0]), (10, .d (.sl (List.map TRange.D v4))), (11, .d (.int .i64 (v4.length : Int))), (12, .d (.int .i64 g.1))], [(0, some (.box [.d (.sl (List.map TItem.D v1)), .arr 1 0 g.2.length])), (1, some (.arr 32 3 (List.map Row.D g.2))), (2, some (.box [.d (.sl (List.map TItem.D v3))]))]⟩) (fun g : Int × List Row => blueprint_table_add__Rows_4_l0 v4 v1 v3 g.1 g.2) _ (fun g y562 hx ih465 hr466 => ?_) (0, v2) hx
  obtain ⟨v108, v109⟩ := g
  unfold blueprint_table_add__Rows_4_l0 at hx
  try dsimp only at hx ⊢
  refine Walk.seq (Walk.region' rfl fun K hK => ?_)
  simp only [go_sem, seval]
  refine hK _ ?_
  clear hK K
  refine Walk.seq (Walk.condO rfl hx (fun c468 hx => ?_) (fun c468 hx => ?_))
  · refine Walk.skip (Walk.seq (Walk.block (Walk.seq (Walk.region' rfl fun K hK => ?_))))
    obtain ⟨v135, r469, a470, b471, c472, hx⟩ := rd_elim hx
    simp only [go_sem, seval, c468, a470, b471, c472]
    repeat refine And.intro (by first | omega | (simp; done) | (simp; omega)) ?_
    refine hK _ ?_
    clear hK K
    refine Walk.seq (Walk.drawn' rfl mixed fun K hK => ?_)
    obtain ⟨k473, hx⟩ := chk_elim hx
    simp only [go_sem, seval, c468, a470, b471, c472, k473]
    repeat refine And.intro (by first | omega | (simp; done) | (simp; omega)) ?_
    refine hK _ _ (by kernel_rfl) (by simp [c468, a470, b471, c472, k473]) ?_
    clear hK K
    refine Walk.weaken ⟨[(0, .box 0 0), (1, .fn 69 [.box 2 0]), (7, .box 10 0), (8, .box 11 0), (10, .d (.sl (List.map TRange.D v4))), (11, .d (.int .i64 (v4.length : Int))), (12, .d (.int .i64 v108))], [(0, some (.box [.d (.sl (List.map TItem.D v1)), .arr 1 0 v109.length])), (1, some (.arr 32 3 (List.map Row.D v109))), (2, some (.box [.d (.sl (List.map TItem.D v3))])), (10, some (.box [.d (.int .i64 v135.Index), .d (.int .i64 v135.Least), .d (.int .i64 v135.Most)])), (11, some (.box [.arr 24 0 (((List.replicate ((v1.length : Int)).toNat (0 : Int))).length), .d (.int .i64 v135.Least), .d (.int .i64 v135.Most)])), (24, some (.arr 3 1 (List.map iD ((List.replicate ((v1.length : Int)).toNat (0 : Int))))))]⟩ (by simp [c468, a470, b471, c472, k473] <;> omega) (by simp [c468, a470, b471, c472, k473] <;> omega) ?_
    refine Walk.seq (Walk.seq (Walk.region' rfl fun K hK => ?_))
    simp only [go_sem, seval, c468, a470, b471, c472, k473]
    refine hK _ ?_
    clear hK K
    refine Walk.block (Walk.loop ?_)
    refine Walk.weaken ⟨[(0, .box 0 0), (1, .fn 69 [.box 2 0]), (7, .box 10 0), (8, .box 11 0), (10, .d (.sl (List.map TRange.D v4))), (11, .d (.int .i64 (v4.length : Int))), (12, .d (.int .i64 v108)), (31, .d (.int .i64 (v1.length : Int))), (32, .d (.int .i64 0))], [(0, some (.box [.d (.sl (List.map TItem.D v1)), .arr 1 0 v109.length])), (1, some (.arr 32 3 (List.map Row.D v109))), (2, some (.box [.d (.sl (List.map TItem.D v3))])), (10, some (.box [.d (.int .i64 v135.Index), .d (.int .i64 v135.Least), .d (.int .i64 v135.Most)])), (11, some (.box [.arr 24 0 (((List.replicate ((v1.length : Int)).toNat (0 : Int))).length), .d (.int .i64 v135.Least), .d (.int .i64 v135.Most)])), (24, some (.arr 3 1 (List.map iD ((List.replicate ((v1.length : Int)).toNat (0 : Int))))))]⟩ (by simp [c468, a470, b471, c472, k473] <;> omega) (by simp [c468, a470, b471, c472, k473] <;> omega) ?_
    refine Walk.iter (σ := Int × List Int) (fun g => ⟨[(0, .box 0 0), (1, .fn 69 [.box 2 0]), (7, .box 10 0), (8, .box 11 0), (10, .d (.sl (List.map TRange.D v4))), (11, .d (.int .i64 (v4.length : Int))), (12, .d (.int .i64 v108)), (31, .d (.int .i64 (v1.length : Int))), (32, .d (.int .i64 g.1))], [(0, some (.box [.d (.sl (List.map TItem.D v1)), .arr 1 0 v109.length])), (1, some (.arr 32 3 (List.map Row.D v109))), (2, some (.box [.d (.sl (List.map TItem.D v3))])), (10, some (.box [.d (.int .i64 v135.Index), .d (.int .i64 v135.Least), .d (.int .i64 v135.Most)])), (11, some (.box [.arr 24 0 g.2.length, .d (.int .i64 v135.Least), .d (.int .i64 v135.Most)])), (24, some (.arr 3 1 (List.map iD g.2)))]⟩) (fun g : Int × List Int => blueprint_table_add__Rows_4_l1 v1 v135 v3 v109 v108 g.1 g.2) _ (fun g y559 hx ih546 hr547 => ?_) (0, (List.replicate ((v1.length : Int)).toNat (0 : Int))) hx
    obtain ⟨v154, v155⟩ := g
    unfold blueprint_table_add__Rows_4_l1 at hx
    try dsimp only at hx ⊢
    refine Walk.seq (Walk.region' rfl fun K hK => ?_)
    simp only [go_sem, seval, c468, a470, b471, c472, k473]
    refine hK _ ?_
    clear hK K
    refine Walk.seq (Walk.condO rfl hx (fun c549 hx => ?_) (fun c549 hx => ?_))
    · refine Walk.skip (Walk.seq (Walk.block (Walk.seq (Walk.region' rfl fun K hK => ?_))))
      simp only [go_sem, seval, c468, a470, b471, c472, k473, c549]
      refine hK _ ?_
      clear hK K
      refine Walk.drawn' rfl mixed fun K hK => ?_
      obtain ⟨v158, h550, hx⟩ := bind_elim hx
      have w551 := ((blueprint_Rows_4_ok v135.Index v135.Least v135.Most v154 v3 _ h550).swap 0 2)
      simp only [renE, renL, AV.ren, AV.rens, AObj.ren, swp, Option.map_some, reduceIte, Nat.reduceEqDiff] at w551
      simp only [go_sem, seval, c468, a470, b471, c472, k473, c549]
      refine VCl.sub [(2, some (.box [.d (.sl (List.map TItem.D v3))]))] [] rfl (by simp only [go_sem, seval, AV.viewXs, AV.viewX, avD, c468, a470, b471, c472, k473, c549]; try simp) (w551) (by simp [c468, a470, b471, c472, k473, c549]) (by simp [c468, a470, b471, c472, k473, c549]) (by simp [c468, a470, b471, c472, k473, c549]) (by simp [c468, a470, b471, c472, k473, c549]) (by simp [c468, a470, b471, c472, k473, c549]) (by simp [c468, a470, b471, c472, k473, c549]) (by simp [c468, a470, b471, c472, k473, c549]) (by simp [c468, a470, b471, c472, k473, c549]) (by simp [c468, a470, b471, c472, k473, c549]) (by simp [c468, a470, b471, c472, k473, c549]) ?_
      obtain ⟨v159, r552, a553, b554, c555, hx⟩ := rd_elim hx
      simp only [go_sem, seval, c468, a470, b471, c472, k473, c549, a553, b554, c555]
      repeat refine And.intro (by first | omega | (simp; done) | (simp; omega)) ?_
      refine hK _ _ (by kernel_rfl) (by simp [c468, a470, b471, c472, k473, c549, a553, b554, c555]) ?_
      clear hK K
      refine Walk.weaken ⟨[(0, .box 0 0), (1, .fn 69 [.box 2 0]), (7, .box 10 0), (8, .box 11 0), (10, .d (.sl (List.map TRange.D v4))), (11, .d (.int .i64 (v4.length : Int))), (12, .d (.int .i64 v108)), (31, .d (.int .i64 (v1.length : Int))), (32, .d (.int .i64 v154))], [(0, some (.box [.d (.sl (List.map TItem.D v1)), .arr 1 0 v109.length])), (1, some (.arr 32 3 (List.map Row.D v109))), (2, some (.box [.d (.sl (List.map TItem.D v3))])), (10, some (.box [.d (.int .i64 v135.Index), .d (.int .i64 v135.Least), .d (.int .i64 v135.Most)])), (11, some (.box [.arr 24 0 (((v155.set (v154).toNat v158)).length), .d (.int .i64 v135.Least), .d (.int .i64 v135.Most)])), (24, some (.arr 3 1 (List.map iD ((v155.set (v154).toNat v158)))))]⟩ (by simp [c468, a470, b471, c472, k473, c549, a553, b554, c555] <;> omega) (by simp [c468, a470, b471, c472, k473, c549, a553, b554, c555] <;> omega) ?_
      refine Walk.inBlock (Walk.region' rfl fun K hK => ?_)
      simp only [go_sem, seval, c468, a470, b471, c472, k473, c549, a553, b554, c555]
      refine hK _ ?_
      clear hK K
      exact Walk.weaken _ (by simp [c468, a470, b471, c472, k473, c549, a553, b554, c555] <;> omega) (by simp [c468, a470, b471, c472, k473, c549, a553, b554, c555] <;> omega) (ih546 _ (cont_elim hx))
    refine Walk.exit rfl ?_
    obtain ⟨z556, e557, hx⟩ := exit_elim hx
    rw [hr547 z556 e557] at hx
    refine Walk.drawn' rfl mixed fun K hK => ?_
    obtain ⟨k558, hx⟩ := chk_elim hx
    simp only [go_sem, seval, c468, a470, b471, c472, k473, c549, k558]
    repeat refine And.intro (by first | omega | (simp; done) | (simp; omega)) ?_
    refine hK _ _ (by kernel_rfl) (by simp [c468, a470, b471, c472, k473, c549, k558]) ?_
    clear hK K
    refine Walk.weaken ⟨[(0, .box 0 0), (1, .fn 69 [.box 2 0]), (10, .d (.sl (List.map TRange.D v4))), (11, .d (.int .i64 (v4.length : Int))), (12, .d (.int .i64 v108))], [(0, some (.box [.d (.sl (List.map TItem.D v1)), .arr 1 0 (((v109 ++ [(Row.mk v155 v135.Least v135.Most)])).length)])), (1, some (.arr 32 3 (List.map Row.D ((v109 ++ [(Row.mk v155 v135.Least v135.Most)]))))), (2, some (.box [.d (.sl (List.map TItem.D v3))]))]⟩ (by simp [c468, a470, b471, c472, k473, c549, k558] <;> omega) (by simp [c468, a470, b471, c472, k473, c549, k558] <;> omega) ?_
    refine Walk.inBlock (Walk.region' rfl fun K hK => ?_)
    simp only [go_sem, seval, c468, a470, b471, c472, k473, c549, k558]
    refine hK _ ?_
    clear hK K
    exact Walk.weaken _ (by simp [c468, a470, b471, c472, k473, c549, k558] <;> omega) (by simp [c468, a470, b471, c472, k473, c549, k558] <;> omega) (ih465 _ (cont_elim hx))
  refine Walk.exit rfl ?_
  obtain ⟨z560, e561, hx⟩ := exit_elim hx
  rw [hr466 z560 e561] at hx
  obtain rfl := Option.some.inj hx
  exact Walk.done ⟨by simp [c468], by simp [c468]⟩
noncomputable def blueprint_Rows_5_1 (v1 : Int) (v2 : Int) (v3 : Int) (v4 : Int) (v5 : Int) (v6 : Int) (v7 : Int) (v8 : Int) (v9 : Int) : Option (Bool) :=
  some (decide (v4 = v7) : Bool)
theorem blueprint_Rows_5_1_ok (v1 : Int) (v2 : Int) (v3 : Int) (v4 : Int) (v5 : Int) (v6 : Int) (v7 : Int) (v8 : Int) (v9 : Int) (r : Bool) (hx : blueprint_Rows_5_1 v1 v2 v3 v4 v5 v6 v7 v8 v9 = some r) :
    ACalls Try.prog 73 [.agg [.d (.int .i64 v1), .d (.int .i64 v2), .d (.int .i64 v3), .d (.int .i64 v4), .d (.int .i64 v5), .d (.int .i64 v6)], .box 0 0] [(0, some (.box [.d (.int .i64 v7), .d (.int .i64 v8), .d (.int .i64 v9)]))] (.d (.bool r)) [(0, some (.box [.d (.int .i64 v7), .d (.int .i64 v8), .d (.int .i64 v9)]))] := by
  refine ACalls.of_sem (n := 9) 1 [3] (fn := Try.f73) Try.func73 rfl rfl (.one rfl) rfl (by simp) (by intro i; simp only [hget]; (repeat' split) <;> simp <;> omega) ?_
  unfold blueprint_Rows_5_1 at hx
  refine Walk.seq (Walk.region' rfl fun K hK => ?_)
  simp only [go_sem, seval]
  refine hK _ ?_
  clear hK K
  refine Walk.seq (Walk.region' rfl fun K hK => ?_)
  simp only [go_sem, seval]
  refine hK _ ?_
  clear hK K
  obtain rfl := Option.some.inj hx
  exact Walk.ret ⟨by simp, by simp⟩
noncomputable def blueprint_marks__Rows_5_1_l0 (v4 : List Part) (v6 : Int) (v7 : Int) (v8 : Int) (v20 : Int) (v21 : Int) : Option ((Int × Int) ⊕ (Int)) :=
  bif decide (v21 < (v4.length : Int)) then ((rd v4 v21).bind fun v24 => (blueprint_Rows_5_1 v24.Kind v24.Max v24.Topic v24.Objective v24.Options v24.Key v6 v7 v8).bind fun v25 => bif v25 then (contO ((IntKind.i64.wrap (v20 + v24.Max), IntKind.i64.wrap (v21 + 1)) : Int × Int)) else (contO ((v20, IntKind.i64.wrap (v21 + 1)) : Int × Int))) else (exitO (some (v20 : Int)))
noncomputable def blueprint_marks__Rows_5_1 (v1 : Int) (v2 : Int) (v3 : List UInt8) (v4 : List Part) (v5 : List Int) (v6 : Int) (v7 : Int) (v8 : Int) : Option (Int) :=
  iter (fun g : Int × Int => blueprint_marks__Rows_5_1_l0 v4 v6 v7 v8 g.1 g.2) (0, 0)
theorem blueprint_marks__Rows_5_1_ok (v1 : Int) (v2 : Int) (v3 : List UInt8) (v4 : List Part) (v5 : List Int) (v6 : Int) (v7 : Int) (v8 : Int) (r : Int) (hx : blueprint_marks__Rows_5_1 v1 v2 v3 v4 v5 v6 v7 v8 = some r) :
    ACalls Try.prog 70 [.agg [.d (.int .i64 v1), .d (.int .i64 v2), .d (.str v3), .d (.sl (List.map Part.D v4)), .d (.sl (List.map iD v5))], .fn 73 [.box 0 0]] [(0, some (.box [.d (.int .i64 v6), .d (.int .i64 v7), .d (.int .i64 v8)]))] (.d (.int .i64 r)) [(0, some (.box [.d (.int .i64 v6), .d (.int .i64 v7), .d (.int .i64 v8)]))] := by
  refine ACalls.of_sem (n := 24) 1 [4] (fn := Try.f70) Try.func70 rfl rfl (.one rfl) rfl (by simp) (by intro i; simp only [hget]; (repeat' split) <;> simp <;> omega) ?_
  unfold blueprint_marks__Rows_5_1 at hx
  refine Walk.seq (Walk.region' rfl fun K hK => ?_)
  simp only [go_sem, seval]
  refine hK _ ?_
  clear hK K
  refine Walk.seq (Walk.region' rfl fun K hK => ?_)
  simp only [go_sem, seval]
  refine hK _ ?_
  clear hK K
  refine Walk.seq (Walk.seq (Walk.region' rfl fun K hK => ?_))
  simp only [go_sem, seval]
  refine hK _ ?_
  clear hK K
  refine Walk.block (Walk.loop ?_)
  refine Walk.weaken ⟨[(1, .fn 73 [.box 0 0]), (5, .d (.int .i64 0)), (9, .d (.sl (List.map Part.D v4))), (10, .d (.int .i64 (v4.length : Int))), (11, .d (.int .i64 0))], [(0, some (.box [.d (.int .i64 v6), .d (.int .i64 v7), .d (.int .i64 v8)]))]⟩ (by simp <;> omega) (by simp <;> omega) ?_
  refine Walk.iter (σ := Int × Int) (fun g => ⟨[(1, .fn 73 [.box 0 0]), (5, .d (.int .i64 g.1)), (9, .d (.sl (List.map Part.D v4))), (10, .d (.int .i64 (v4.length : Int))), (11, .d (.int .i64 g.2))], [(0, some (.box [.d (.int .i64 v6), .d (.int .i64 v7), .d (.int .i64 v8)]))]⟩) (fun g : Int × Int => blueprint_marks__Rows_5_1_l0 v4 v6 v7 v8 g.1 g.2) _ (fun g y57 hx ih45 hr46 => ?_) (0, 0) hx
  obtain ⟨v20, v21⟩ := g
  unfold blueprint_marks__Rows_5_1_l0 at hx
  try dsimp only at hx ⊢
  refine Walk.seq (Walk.region' rfl fun K hK => ?_)
  simp only [go_sem, seval]
  refine hK _ ?_
  clear hK K
  refine Walk.seq (Walk.condO rfl hx (fun c48 hx => ?_) (fun c48 hx => ?_))
  · refine Walk.skip (Walk.seq (Walk.block (Walk.seq (Walk.region' rfl fun K hK => ?_))))
    obtain ⟨v24, r49, a50, b51, c52, hx⟩ := rd_elim hx
    simp only [go_sem, seval, c48, a50, b51, c52]
    repeat refine And.intro (by first | omega | (simp; done) | (simp; omega)) ?_
    refine hK _ ?_
    clear hK K
    refine Walk.seq (Walk.region' rfl fun K hK => ?_)
    obtain ⟨v25, h53, hx⟩ := bind_elim hx
    simp only [go_sem, seval, c48, a50, b51, c52]
    refine VCl.sub [(0, some (.box [.d (.int .i64 v6), .d (.int .i64 v7), .d (.int .i64 v8)]))] [] rfl (by simp only [go_sem, seval, AV.viewXs, AV.viewX, avD, c48, a50, b51, c52]; try simp) (blueprint_Rows_5_1_ok v24.Kind v24.Max v24.Topic v24.Objective v24.Options v24.Key v6 v7 v8 _ h53) (by simp [c48, a50, b51, c52]) (by simp [c48, a50, b51, c52]) (by simp [c48, a50, b51, c52]) (by simp [c48, a50, b51, c52]) (by simp [c48, a50, b51, c52]) (by simp [c48, a50, b51, c52]) (by simp [c48, a50, b51, c52]) (by simp [c48, a50, b51, c52]) (by simp [c48, a50, b51, c52]) (by simp [c48, a50, b51, c52]) ?_
    simp only [go_sem, seval, c48, a50, b51, c52]
    refine hK _ ?_
    clear hK K
    refine Walk.weaken ⟨[(1, .fn 73 [.box 0 0]), (5, .d (.int .i64 v20)), (7, .box 8 0), (9, .d (.sl (List.map Part.D v4))), (10, .d (.int .i64 (v4.length : Int))), (11, .d (.int .i64 v21)), (17, .d (.bool v25))], [(0, some (.box [.d (.int .i64 v6), .d (.int .i64 v7), .d (.int .i64 v8)])), (8, some (.box [.d (.int .i64 v24.Kind), .d (.int .i64 v24.Max), .d (.int .i64 v24.Topic), .d (.int .i64 v24.Objective), .d (.int .i64 v24.Options), .d (.int .i64 v24.Key)]))]⟩ (by simp [c48, a50, b51, c52] <;> omega) (by simp [c48, a50, b51, c52] <;> omega) ?_
    refine Walk.condO rfl hx (fun c54 hx => ?_) (fun c54 hx => ?_)
    · refine Walk.region' rfl fun K hK => ?_
      simp only [go_sem, seval, c48, a50, b51, c52, c54]
      refine hK _ ?_
      clear hK K
      refine Walk.inBlock (Walk.region' rfl fun K hK => ?_)
      simp only [go_sem, seval, c48, a50, b51, c52, c54]
      refine hK _ ?_
      clear hK K
      exact Walk.weaken _ (by simp [c48, a50, b51, c52, c54] <;> omega) (by simp [c48, a50, b51, c52, c54] <;> omega) (ih45 _ (cont_elim hx))
    refine Walk.skip (Walk.inBlock (Walk.region' rfl fun K hK => ?_))
    simp only [go_sem, seval, c48, a50, b51, c52, c54]
    refine hK _ ?_
    clear hK K
    exact Walk.weaken _ (by simp [c48, a50, b51, c52, c54] <;> omega) (by simp [c48, a50, b51, c52, c54] <;> omega) (ih45 _ (cont_elim hx))
  refine Walk.exit rfl ?_
  obtain ⟨z55, e56, hx⟩ := exit_elim hx
  rw [hr46 z55 e56] at hx
  refine Walk.seq (Walk.region' rfl fun K hK => ?_)
  simp only [go_sem, seval, c48]
  refine hK _ ?_
  clear hK K
  obtain rfl := Option.some.inj hx
  exact Walk.ret ⟨by simp [c48], by simp [c48]⟩
noncomputable def blueprint_Rows_5 (v1 : Int) (v2 : Int) (v3 : Int) (v4 : Int) (v5 : List TItem) : Option (Int) :=
  (rd v5 v4).bind fun v9 => (blueprint_marks__Rows_5_1 v9.ID v9.Version v9.Stem v9.Parts v9.Enemies v1 v2 v3).bind fun v10 => some (v10 : Int)
theorem blueprint_Rows_5_ok (v1 : Int) (v2 : Int) (v3 : Int) (v4 : Int) (v5 : List TItem) (r : Int) (hx : blueprint_Rows_5 v1 v2 v3 v4 v5 = some r) :
    ACalls Try.prog 72 [.agg [.d (.int .i64 v1), .d (.int .i64 v2), .d (.int .i64 v3)], .d (.int .i64 v4), .box 0 0] [(0, some (.box [.d (.sl (List.map TItem.D v5))]))] (.d (.int .i64 r)) [(0, some (.box [.d (.sl (List.map TItem.D v5))]))] := by
  refine ACalls.of_sem (n := 12) 1 [5] (fn := Try.f72) Try.func72 rfl rfl (.one rfl) rfl (by simp) (by intro i; simp only [hget]; (repeat' split) <;> simp <;> omega) ?_
  unfold blueprint_Rows_5 at hx
  refine Walk.seq (Walk.region' rfl fun K hK => ?_)
  simp only [go_sem, seval]
  refine hK _ ?_
  clear hK K
  refine Walk.seq (Walk.region' rfl fun K hK => ?_)
  obtain ⟨v9, r7, a8, b9, c10, hx⟩ := rd_elim hx
  obtain ⟨v10, h11, hx⟩ := bind_elim hx
  have w12 := ((blueprint_marks__Rows_5_1_ok v9.ID v9.Version v9.Stem v9.Parts v9.Enemies v1 v2 v3 _ h11).swap 0 4)
  simp only [renE, renL, AV.ren, AV.rens, AObj.ren, swp, Option.map_some, reduceIte, Nat.reduceEqDiff] at w12
  simp only [go_sem, seval, a8, b9, c10]
  repeat refine And.intro (by first | omega | (simp; done) | (simp; omega)) ?_
  refine VCl.sub [(4, some (.box [.d (.int .i64 v1), .d (.int .i64 v2), .d (.int .i64 v3)]))] [] rfl (by simp only [go_sem, seval, AV.viewXs, AV.viewX, avD, a8, b9, c10]; try simp) (w12) (by simp [a8, b9, c10]) (by simp [a8, b9, c10]) (by simp [a8, b9, c10]) (by simp [a8, b9, c10]) (by simp [a8, b9, c10]) (by simp [a8, b9, c10]) (by simp [a8, b9, c10]) (by simp [a8, b9, c10]) (by simp [a8, b9, c10]) (by simp [a8, b9, c10]) ?_
  simp only [go_sem, seval, a8, b9, c10]
  refine hK _ ?_
  clear hK K
  refine Walk.weaken ⟨[(5, .d (.int .i64 v10))], [(0, some (.box [.d (.sl (List.map TItem.D v5))]))]⟩ (by simp [a8, b9, c10] <;> omega) (by simp [a8, b9, c10] <;> omega) ?_
  obtain rfl := Option.some.inj hx
  exact Walk.ret ⟨by simp [a8, b9, c10], by simp [a8, b9, c10]⟩
end Go.AX

