import Derived.Test.YtmggphnhfegffaaE8
set_option linter.unusedVariables false
set_option linter.unusedSimpArgs false
set_option maxRecDepth 20000
set_option maxHeartbeats 4000000
namespace Go.AX
open Go.Proofs
attribute [local simp] take_map_len subE subH eget hget upE upV upH upO_refl upO_box upVs freshE freshH freshO AV.ids AV.idsL ids_box ids_arr frE frV_refl frV_arr frH frO_refl frO_box frVs newOk evalA AV.viewXs AV.viewX AV.viewXP AV.viewXPs AV.viewPs AV.viewP AV.flat AV.flatL D.flat arrsOnly flatObjs newNames subOf closedIn allSome dstOk newOrOld avD avDp zv_i64 zv_u8 zv_bool zv_nils zv_nilp zv_str retAV aLoad cut TI.isAgg nlE nlH nlO_refl nlO_box nlVs nlV_refl nlV_nil iD uD bD tD lD List.map_set ti2 ti3 ti4 ti5 ti6 ti7 ti8 ti9 ti10 ti11 ti12 ti13 ti14 ti15 ti16 ti17 ti18 ti19 ti21 ti22 ti23 ti25 ti26 ti27 ti31 ti32 ti41 ti51 ti52 ti53 ti54 ti56 ti58 ti60 ti61 ti62 ti67 ti68 ti71 ti72 ti79 ti80 ti81 ti82 ti83 ti84 ti85 ti89 ti93 ti94 ti95 ti110 ti124 ti125 ti126 ti127 ti128 ti129 ti130 ti131 ti133 ti134 ti135 ti136 ti137 Row.D TRange.D Ref.D Form.D Part.D TItem.D
attribute [local go_sem] V1_none V1_some V_nil V_move V_assign V_pick V_bin V_un V_extract V_makeFunc V_convert V_nilCheck V_fieldAddr V_field V_load V_store V_indexAddr V_index V_slice V_slice0 V_alloc V_box V_build V_buildSlice V_makeSlice V_len V_min V_max V_append V_call V_guard VGs_some VG_tt VG_ff VG_tf VG_ft VG_u gslot ok fail po so aNew dstOk freshU addLog_none' addLog_some' St.step putL evalA eget hget argE freshE freshO freshH AV.ids AV.idsL AV.ok1 AV.cells ids_box ids_arr liveBox liveArr isArr aPick aBin aUn aExtract aMakeFunc aConvert aNilCheck aFieldAddr aField cut aLen aIndexAddr aMin aMax aIndex bnd isInt aSlice aSlice0 aLoad aAlloc aBox aStore splice aMake updIds newIds zv_i64 zv_u8 zv_bool zv_nils zv_nilp cond_bool cond_int TI.isAgg TK.isSl TK.el okL avDps avDp avD List.map_cons List.map_nil List.append_nil List.nil_append List.cons_append List.length_cons List.length_nil List.take_succ_cons List.take_zero List.drop_succ_cons List.drop_zero List.take_nil List.drop_nil List.headD_cons List.getD_cons_zero List.getD_cons_succ List.mem_cons List.not_mem_nil List.getElem?_cons_zero List.getElem?_cons_succ List.toList_toArray Option.getD_some Option.getD_none Option.bind_some Option.bind_none Option.map_some Option.map_none Option.getD Option.toList Nat.zero_add Nat.add_zero Nat.zero_le Nat.le_refl if_true if_false ite_self true_and and_true false_and and_false true_or or_true false_or or_false not_true_eq_false not_false_eq_true ne_eq cond_true cond_false Bool.true_eq_false Bool.false_eq_true forall_const decide_true decide_false implies_true true_implies and_self or_self Nat.succ_ne_zero Int.toNat_natCast Int.natCast_nonneg List.length_map decide_eq_true_eq AV.views AV.view AV.viewPs AV.viewP arrsOnly newNames List.length_append List.append_assoc Bool.not_true Bool.not_false AV.ok2 aBuild fillR fillP aBuildSlice dense elP aAppend esOf esOfP List.forall_mem_cons forall_eq_or_imp forall_eq zD zDp map_take' map_drop' iD uD bD tD lD iD_len uD_len bD_len tD_len lD_len LB Int.cast_ofNat_Int Int.natCast_zero Int.natCast_one head_len all_len List.head?_cons List.head?_nil Bool.not_not eq_self List.take_length zv_str aConv byteOf isByte map_bcell bytes_all str_map cellsEq cellsP AV.kd Bool.and_true Bool.true_and Bool.and_false Bool.false_and ti2 ti3 ti4 ti5 ti6 ti7 ti8 ti9 ti10 ti11 ti12 ti13 ti14 ti15 ti16 ti17 ti18 ti19 ti21 ti22 ti23 ti25 ti26 ti27 ti31 ti32 ti41 ti51 ti52 ti53 ti54 ti56 ti58 ti60 ti61 ti62 ti67 ti68 ti71 ti72 ti79 ti80 ti81 ti82 ti83 ti84 ti85 ti89 ti93 ti94 ti95 ti110 ti124 ti125 ti126 ti127 ti128 ti129 ti130 ti131 ti133 ti134 ti135 ti136 ti137 Row.D TRange.D Ref.D Form.D Part.D TItem.D Row.D_len TRange.D_len Ref.D_len Form.D_len Part.D_len TItem.D_len zs_ zs_48_49_50_51_52_53_54_55_56_57_48_49_50_51_52_53_54_55_56_57_48_49_50_51_52_53_54_55_56_57_48_49_50_51_52_53_54_55_56_57_120 zs_113 zs_116_97_98_9 eqf85_00
noncomputable def blueprint_table_add__Rows_5_l1 (v1 : List TItem) (v135 : TRange) (v3 : List TItem) (v109 : List Row) (v108 : Int) (v154 : Int) (v155 : List Int) : Option ((Int × List Int) ⊕ ((Int × List Row) ⊕ (List Row))) :=
  bif decide (v154 < (v1.length : Int)) then ((blueprint_Rows_5 v135.Index v135.Least v135.Most v154 v3).bind fun v158 => (rd v155 v154).bind fun v159 => contO ((IntKind.i64.wrap (v154 + 1), (v155.set (v154).toNat v158)) : Int × List Int)) else (exitO (chk ((v109.length + 1) * 40 ≤ 140737488355328) (contO ((IntKind.i64.wrap (v108 + 1), (v109 ++ [(Row.mk v155 v135.Least v135.Most)])) : Int × List Row))))
noncomputable def blueprint_table_add__Rows_5_l0 (v4 : List TRange) (v1 : List TItem) (v3 : List TItem) (v108 : Int) (v109 : List Row) : Option ((Int × List Row) ⊕ (List Row)) :=
  bif decide (v108 < (v4.length : Int)) then ((rd v4 v108).bind fun v135 => chk ((0 : Int) ≤ (v1.length : Int) ∧ (v1.length : Int) = (v1.length : Int) ∧ 8 * (v1.length : Int) ≤ 281474976710656 ∧ (v1.length : Int) ≤ 281474976710656) (iter (fun g : Int × List Int => blueprint_table_add__Rows_5_l1 v1 v135 v3 v109 v108 g.1 g.2) (0, (List.replicate ((v1.length : Int)).toNat (0 : Int))))) else (exitO (some (v109 : List Row)))
noncomputable def blueprint_table_add__Rows_5 (v1 : List TItem) (v2 : List Row) (v3 : List TItem) (v4 : List TRange) : Option (List Row) :=
  iter (fun g : Int × List Row => blueprint_table_add__Rows_5_l0 v4 v1 v3 g.1 g.2) (0, v2)
theorem blueprint_table_add__Rows_5_ok (v1 : List TItem) (v2 : List Row) (v3 : List TItem) (v4 : List TRange) (r : List Row) (hx : blueprint_table_add__Rows_5 v1 v2 v3 v4 = some r) :
    ACalls Try.prog 65 [.box 0 0, .fn 72 [.box 2 0], .d (.sl (List.map TRange.D v4))] [(0, some (.box [.d (.sl (List.map TItem.D v1)), .arr 1 0 v2.length])), (1, some (.arr 32 3 (List.map Row.D v2))), (2, some (.box [.d (.sl (List.map TItem.D v3))]))] (.tup []) [(0, some (.box [.d (.sl (List.map TItem.D v1)), .arr 1 0 r.length])), (1, some (.arr 32 3 (List.map Row.D r))), (2, some (.box [.d (.sl (List.map TItem.D v3))]))] := by
  refine ACalls.of_sem (n := 55) 3 [] (fn := Try.f65) Try.func65 rfl rfl (.zero rfl) rfl (by simp) (by intro i; simp only [hget]; (repeat' split) <;> simp <;> omega) ?_
  unfold blueprint_table_add__Rows_5 at hx
  refine Walk.seq (Walk.region' rfl fun K hK => ?_)
  simp only [go_sem, seval]
  refine hK _ ?_
  clear hK K
  refine Walk.block (Walk.loop ?_)
  refine Walk.weaken ⟨[(0, .box 0 0), (1, .fn 72 [.box 2 0]), (10, .d (.sl (List.map TRange.D v4))), (11, .d (.int .i64 (v4.length : Int))), (12, .d (.int .i64 0))], [(0, some (.box [.d (.sl (List.map TItem.D v1)), .arr 1 0 v2.length])), (1, some (.arr 32 3 (List.map Row.D v2))), (2, some (.box [.d (.sl (List.map TItem.D v3))]))]⟩ (by simp <;> omega) (by simp <;> omega) ?_
  refine Walk.iter (σ := Int × List Row) (fun g => ⟨[(0, .box 0 0), (1, .fn 72 [.box 2 0]), (10, .d (.sl (List.map TRange.D v4))), (11, .d (.int .i64 (v4.length : Int))), (12, .d (.int .i64 g.1))], [(0, some (.box [.d (.sl (List.map TItem.D v1)), .arr 1 0 g.2.length])), (1, some (.arr 32 3 (List.map Row.D g.2))), (2, some (.box [.d (.sl (List.map TItem.D v3))]))]⟩) (fun g : Int × List Row => blueprint_table_add__Rows_5_l0 v4 v1 v3 g.1 g.2) _ (fun g y562 hx ih465 hr466 => ?_) (0, v2) hx
  obtain ⟨v108, v109⟩ := g
  unfold blueprint_table_add__Rows_5_l0 at hx
  try dsimp only at hx ⊢
  refine Walk.seq (Walk.region' rfl fun K hK => ?_)
  simp only [go_sem, seval]
  refine hK _ ?_
  clear hK K
  refine Walk.seq (Walk.condO rfl hx (fun c468 hx => ?_) (fun c468 hx => ?_))
  · refine Walk.skip (Walk.seq (Walk.block (Walk.seq (Walk.region' rfl fun K hK => ?_))))
    obtain ⟨v135, r469, a470, b471, c472, hx⟩ := rd_elim hx
    simp only [go_sem, seval, c468, a470, b471, c472]
    repeat refine And.intro (by first | omega | (simp; done) | (simp; omega)) ?_
    refine hK _ ?_
    clear hK K
    refine Walk.seq (Walk.drawn' rfl mixed fun K hK => ?_)
    obtain ⟨k473, hx⟩ := chk_elim hx
    simp only [go_sem, seval, c468, a470, b471, c472, k473]
    repeat refine And.intro (by first | omega | (simp; done) | (simp; omega)) ?_
    refine hK _ _ (by kernel_rfl) (by simp [c468, a470, b471, c472, k473]) ?_
    clear hK K
    refine Walk.weaken ⟨[(0, .box 0 0), (1, .fn 72 [.box 2 0]), (7, .box 10 0), (8, .box 11 0), (10, .d (.sl (List.map TRange.D v4))), (11, .d (.int .i64 (v4.length : Int))), (12, .d (.int .i64 v108))], [(0, some (.box [.d (.sl (List.map TItem.D v1)), .arr 1 0 v109.length])), (1, some (.arr 32 3 (List.map Row.D v109))), (2, some (.box [.d (.sl (List.map TItem.D v3))])), (10, some (.box [.d (.int .i64 v135.Index), .d (.int .i64 v135.Least), .d (.int .i64 v135.Most)])), (11, some (.box [.arr 24 0 (((List.replicate ((v1.length : Int)).toNat (0 : Int))).length), .d (.int .i64 v135.Least), .d (.int .i64 v135.Most)])), (24, some (.arr 3 1 (List.map iD ((List.replicate ((v1.length : Int)).toNat (0 : Int))))))]⟩ (by simp [c468, a470, b471, c472, k473] <;> omega) (by simp [c468, a470, b471, c472, k473] <;> omega) ?_
    refine Walk.seq (Walk.seq (Walk.region' rfl fun K hK => ?_))
    simp only [go_sem, seval, c468, a470, b471, c472, k473]
    refine hK _ ?_
    clear hK K
    refine Walk.block (Walk.loop ?_)
    refine Walk.weaken ⟨[(0, .box 0 0), (1, .fn 72 [.box 2 0]), (7, .box 10 0), (8, .box 11 0), (10, .d (.sl (List.map TRange.D v4))), (11, .d (.int .i64 (v4.length : Int))), (12, .d (.int .i64 v108)), (31, .d (.int .i64 (v1.length : Int))), (32, .d (.int .i64 0))], [(0, some (.box [.d (.sl (List.map TItem.D v1)), .arr 1 0 v109.length])), (1, some (.arr 32 3 (List.map Row.D v109))), (2, some (.box [.d (.sl (List.map TItem.D v3))])), (10, some (.box [.d (.int .i64 v135.Index), .d (.int .i64 v135.Least), .d (.int .i64 v135.Most)])), (11, some (.box [.arr 24 0 (((List.replicate ((v1.length : Int)).toNat (0 : Int))).length), .d (.int .i64 v135.Least), .d (.int .i64 v135.Most)])), (24, some (.arr 3 1 (List.map iD ((List.replicate ((v1.length : Int)).toNat (0 : Int))))))]⟩ (by simp [c468, a470, b471, c472, k473] <;> omega) (by simp [c468, a470, b471, c472, k473] <;> omega) ?_
    refine Walk.iter (σ := Int × List Int) (fun g => ⟨[(0, .box 0 0), (1, .fn 72 [.box 2 0]), (7, .box 10 0), (8, .box 11 0), (10, .d (.sl (List.map TRange.D v4))), (11, .d (.int .i64 (v4.length : Int))), (12, .d (.int .i64 v108)), (31, .d (.int .i64 (v1.length : Int))), (32, .d (.int .i64 g.1))], [(0, some (.box [.d (.sl (List.map TItem.D v1)), .arr 1 0 v109.length])), (1, some (.arr 32 3 (List.map Row.D v109))), (2, some (.box [.d (.sl (List.map TItem.D v3))])), (10, some (.box [.d (.int .i64 v135.Index), .d (.int .i64 v135.Least), .d (.int .i64 v135.Most)])), (11, some (.box [.arr 24 0 g.2.length, .d (.int .i64 v135.Least), .d (.int .i64 v135.Most)])), (24, some (.arr 3 1 (List.map iD g.2)))]⟩) (fun g : Int × List Int => blueprint_table_add__Rows_5_l1 v1 v135 v3 v109 v108 g.1 g.2) _ (fun g y559 hx ih546 hr547 => ?_) (0, (List.replicate ((v1.length : Int)).toNat (0 : Int))) hx
    obtain ⟨v154, v155⟩ := g
    unfold blueprint_table_add__Rows_5_l1 at hx
    try dsimp only at hx ⊢
    refine Walk.seq (Walk.region' rfl fun K hK => ?_)
    simp only [go_sem, seval, c468, a470, b471, c472, k473]
    refine hK _ ?_
    clear hK K
    refine Walk.seq (Walk.condO rfl hx (fun c549 hx => ?_) (fun c549 hx => ?_))
    · refine Walk.skip (Walk.seq (Walk.block (Walk.seq (Walk.region' rfl fun K hK => ?_))))
      simp only [go_sem, seval, c468, a470, b471, c472, k473, c549]
      refine hK _ ?_
      clear hK K
      refine Walk.drawn' rfl mixed fun K hK => ?_
      obtain ⟨v158, h550, hx⟩ := bind_elim hx
      have w551 := ((blueprint_Rows_5_ok v135.Index v135.Least v135.Most v154 v3 _ h550).swap 0 2)
      simp only [renE, renL, AV.ren, AV.rens, AObj.ren, swp, Option.map_some, reduceIte, Nat.reduceEqDiff] at w551
      simp only [go_sem, seval, c468, a470, b471, c472, k473, c549]
      refine VCl.sub [(2, some (.box [.d (.sl (List.map TItem.D v3))]))] [] rfl (by simp only [go_sem, seval, AV.viewXs, AV.viewX, avD, c468, a470, b471, c472, k473, c549]; try simp) (w551) (by simp [c468, a470, b471, c472, k473, c549]) (by simp [c468, a470, b471, c472, k473, c549]) (by simp [c468, a470, b471, c472, k473, c549]) (by simp [c468, a470, b471, c472, k473, c549]) (by simp [c468, a470, b471, c472, k473, c549]) (by simp [c468, a470, b471, c472, k473, c549]) (by simp [c468, a470, b471, c472, k473, c549]) (by simp [c468, a470, b471, c472, k473, c549]) (by simp [c468, a470, b471, c472, k473, c549]) (by simp [c468, a470, b471, c472, k473, c549]) ?_
      obtain ⟨v159, r552, a553, b554, c555, hx⟩ := rd_elim hx
      simp only [go_sem, seval, c468, a470, b471, c472, k473, c549, a553, b554, c555]
      repeat refine And.intro (by first | omega | (simp; done) | (simp; omega)) ?_
      refine hK _ _ (by kernel_rfl) (by simp [c468, a470, b471, c472, k473, c549, a553, b554, c555]) ?_
      clear hK K
      refine Walk.weaken ⟨[(0, .box 0 0), (1, .fn 72 [.box 2 0]), (7, .box 10 0), (8, .box 11 0), (10, .d (.sl (List.map TRange.D v4))), (11, .d (.int .i64 (v4.length : Int))), (12, .d (.int .i64 v108)), (31, .d (.int .i64 (v1.length : Int))), (32, .d (.int .i64 v154))], [(0, some (.box [.d (.sl (List.map TItem.D v1)), .arr 1 0 v109.length])), (1, some (.arr 32 3 (List.map Row.D v109))), (2, some (.box [.d (.sl (List.map TItem.D v3))])), (10, some (.box [.d (.int .i64 v135.Index), .d (.int .i64 v135.Least), .d (.int .i64 v135.Most)])), (11, some (.box [.arr 24 0 (((v155.set (v154).toNat v158)).length), .d (.int .i64 v135.Least), .d (.int .i64 v135.Most)])), (24, some (.arr 3 1 (List.map iD ((v155.set (v154).toNat v158)))))]⟩ (by simp [c468, a470, b471, c472, k473, c549, a553, b554, c555] <;> omega) (by simp [c468, a470, b471, c472, k473, c549, a553, b554, c555] <;> omega) ?_
      refine Walk.inBlock (Walk.region' rfl fun K hK => ?_)
      simp only [go_sem, seval, c468, a470, b471, c472, k473, c549, a553, b554, c555]
      refine hK _ ?_
      clear hK K
      exact Walk.weaken _ (by simp [c468, a470, b471, c472, k473, c549, a553, b554, c555] <;> omega) (by simp [c468, a470, b471, c472, k473, c549, a553, b554, c555] <;> omega) (ih546 _ (cont_elim hx))
    refine Walk.exit rfl ?_
    obtain ⟨z556, e557, hx⟩ := exit_elim hx
    rw [hr547 z556 e557] at hx
    refine Walk.drawn' rfl mixed fun K hK => ?_
    obtain ⟨k558, hx⟩ := chk_elim hx
    simp only [go_sem, seval, c468, a470, b471, c472, k473, c549, k558]
    repeat refine And.intro (by first | omega | (simp; done) | (simp; omega)) ?_
    refine hK _ _ (by kernel_rfl) (by simp [c468, a470, b471, c472, k473, c549, k558]) ?_
    clear hK K
    refine Walk.weaken ⟨[(0, .box 0 0), (1, .fn 72 [.box 2 0]), (10, .d (.sl (List.map TRange.D v4))), (11, .d (.int .i64 (v4.length : Int))), (12, .d (.int .i64 v108))], [(0, some (.box [.d (.sl (List.map TItem.D v1)), .arr 1 0 (((v109 ++ [(Row.mk v155 v135.Least v135.Most)])).length)])), (1, some (.arr 32 3 (List.map Row.D ((v109 ++ [(Row.mk v155 v135.Least v135.Most)]))))), (2, some (.box [.d (.sl (List.map TItem.D v3))]))]⟩ (by simp [c468, a470, b471, c472, k473, c549, k558] <;> omega) (by simp [c468, a470, b471, c472, k473, c549, k558] <;> omega) ?_
    refine Walk.inBlock (Walk.region' rfl fun K hK => ?_)
    simp only [go_sem, seval, c468, a470, b471, c472, k473, c549, k558]
    refine hK _ ?_
    clear hK K
    exact Walk.weaken _ (by simp [c468, a470, b471, c472, k473, c549, k558] <;> omega) (by simp [c468, a470, b471, c472, k473, c549, k558] <;> omega) (ih465 _ (cont_elim hx))
  refine Walk.exit rfl ?_
  obtain ⟨z560, e561, hx⟩ := exit_elim hx
  rw [hr466 z560 e561] at hx
  obtain rfl := Option.some.inj hx
  exact Walk.done ⟨by simp [c468], by simp [c468]⟩
noncomputable def blueprint_one (v1 : Bool) : Option (Int) :=
  bif v1 then (some (1 : Int)) else (some (0 : Int))
theorem blueprint_one_ok (v1 : Bool) (r : Int) (hx : blueprint_one v1 = some r) :
    ACalls Try.prog 75 [.d (.bool v1)] [] (.d (.int .i64 r)) [] := by
  refine ACalls.of_sem (n := 4) 0 [2] (fn := Try.f75) Try.func75 rfl rfl (.one rfl) rfl (by simp) (by intro i; simp only [hget]; (repeat' split) <;> simp <;> omega) ?_
  unfold blueprint_one at hx
  refine Walk.seq (Walk.region' rfl fun K hK => ?_)
  simp only [go_sem, seval]
  refine hK _ ?_
  clear hK K
  refine Walk.seq (Walk.seq (Walk.region' rfl fun K hK => ?_))
  simp only [go_sem, seval]
  refine hK _ ?_
  clear hK K
  refine Walk.condO rfl hx (fun c2 hx => ?_) (fun c2 hx => ?_)
  · refine Walk.seq (Walk.region' rfl fun K hK => ?_)
    simp only [go_sem, seval, c2]
    refine hK _ ?_
    clear hK K
    obtain rfl := Option.some.inj hx
    exact Walk.ret ⟨by simp [c2], by simp [c2]⟩
  refine Walk.skip (Walk.seq (Walk.region' rfl fun K hK => ?_))
  simp only [go_sem, seval, c2]
  refine hK _ ?_
  clear hK K
  obtain rfl := Option.some.inj hx
  exact Walk.ret ⟨by simp [c2], by simp [c2]⟩
noncomputable def blueprint_Rows_6 (v1 : Int) (v2 : Int) (v3 : Int) (v4 : Int) (v5 : List TItem) : Option (Int) :=
  (rd v5 v4).bind fun v9 => (blueprint_one (decide (v9.ID = v1))).bind fun v10 => some (v10 : Int)
theorem blueprint_Rows_6_ok (v1 : Int) (v2 : Int) (v3 : Int) (v4 : Int) (v5 : List TItem) (r : Int) (hx : blueprint_Rows_6 v1 v2 v3 v4 v5 = some r) :
    ACalls Try.prog 74 [.agg [.d (.int .i64 v1), .d (.int .i64 v2), .d (.int .i64 v3)], .d (.int .i64 v4), .box 0 0] [(0, some (.box [.d (.sl (List.map TItem.D v5))]))] (.d (.int .i64 r)) [(0, some (.box [.d (.sl (List.map TItem.D v5))]))] := by
  refine ACalls.of_sem (n := 15) 1 [5] (fn := Try.f74) Try.func74 rfl rfl (.one rfl) rfl (by simp) (by intro i; simp only [hget]; (repeat' split) <;> simp <;> omega) ?_
  unfold blueprint_Rows_6 at hx
  refine Walk.seq (Walk.region' rfl fun K hK => ?_)
  simp only [go_sem, seval]
  refine hK _ ?_
  clear hK K
  refine Walk.seq (Walk.drawn' rfl mixed fun K hK => ?_)
  obtain ⟨v9, r6, a7, b8, c9, hx⟩ := rd_elim hx
  obtain ⟨v10, h10, hx⟩ := bind_elim hx
  simp only [go_sem, seval, a7, b8, c9]
  repeat refine And.intro (by first | omega | (simp; done) | (simp; omega)) ?_
  refine VCl.pure rfl (by simp only [go_sem, seval, a7, b8, c9]; try simp) (blueprint_one_ok (decide (v9.ID = v1)) _ h10) (by simp only [go_sem, seval, a7, b8, c9]; try simp) (by simp only [go_sem, seval, a7, b8, c9]; try simp) (by simp only [go_sem, seval, a7, b8, c9]; try simp) (by simp only [go_sem, seval, a7, b8, c9]; try simp) (by simp only [go_sem, seval, a7, b8, c9]; try simp) (by simp only [go_sem, seval, a7, b8, c9]; try simp) ?_
  simp only [go_sem, seval, a7, b8, c9]
  refine hK _ _ (by kernel_rfl) (by simp [a7, b8, c9]) ?_
  clear hK K
  obtain rfl := Option.some.inj hx
  exact Walk.ret ⟨by simp [a7, b8, c9], by simp [a7, b8, c9]⟩
noncomputable def blueprint_table_add__Rows_6_l1 (v1 : List TItem) (v135 : TRange) (v3 : List TItem) (v109 : List Row) (v108 : Int) (v154 : Int) (v155 : List Int) : Option ((Int × List Int) ⊕ ((Int × List Row) ⊕ (List Row))) :=
  bif decide (v154 < (v1.length : Int)) then ((blueprint_Rows_6 v135.Index v135.Least v135.Most v154 v3).bind fun v158 => (rd v155 v154).bind fun v159 => contO ((IntKind.i64.wrap (v154 + 1), (v155.set (v154).toNat v158)) : Int × List Int)) else (exitO (chk ((v109.length + 1) * 40 ≤ 140737488355328) (contO ((IntKind.i64.wrap (v108 + 1), (v109 ++ [(Row.mk v155 v135.Least v135.Most)])) : Int × List Row))))
noncomputable def blueprint_table_add__Rows_6_l0 (v4 : List TRange) (v1 : List TItem) (v3 : List TItem) (v108 : Int) (v109 : List Row) : Option ((Int × List Row) ⊕ (List Row)) :=
  bif decide (v108 < (v4.length : Int)) then ((rd v4 v108).bind fun v135 => chk ((0 : Int) ≤ (v1.length : Int) ∧ (v1.length : Int) = (v1.length : Int) ∧ 8 * (v1.length : Int) ≤ 281474976710656 ∧ (v1.length : Int) ≤ 281474976710656) (iter (fun g : Int × List Int => blueprint_table_add__Rows_6_l1 v1 v135 v3 v109 v108 g.1 g.2) (0, (List.replicate ((v1.length : Int)).toNat (0 : Int))))) else (exitO (some (v109 : List Row)))
noncomputable def blueprint_table_add__Rows_6 (v1 : List TItem) (v2 : List Row) (v3 : List TItem) (v4 : List TRange) : Option (List Row) :=
  iter (fun g : Int × List Row => blueprint_table_add__Rows_6_l0 v4 v1 v3 g.1 g.2) (0, v2)
theorem blueprint_table_add__Rows_6_ok (v1 : List TItem) (v2 : List Row) (v3 : List TItem) (v4 : List TRange) (r : List Row) (hx : blueprint_table_add__Rows_6 v1 v2 v3 v4 = some r) :
    ACalls Try.prog 65 [.box 0 0, .fn 74 [.box 2 0], .d (.sl (List.map TRange.D v4))] [(0, some (.box [.d (.sl (List.map TItem.D v1)), .arr 1 0 v2.length])), (1, some (.arr 32 3 (List.map Row.D v2))), (2, some (.box [.d (.sl (List.map TItem.D v3))]))] (.tup []) [(0, some (.box [.d (.sl (List.map TItem.D v1)), .arr 1 0 r.length])), (1, some (.arr 32 3 (List.map Row.D r))), (2, some (.box [.d (.sl (List.map TItem.D v3))]))] := by
  refine ACalls.of_sem (n := 55) 3 [] (fn := Try.f65) Try.func65 rfl rfl (.zero rfl) rfl (by simp) (by intro i; simp only [hget]; (repeat' split) <;> simp <;> omega) ?_
  unfold blueprint_table_add__Rows_6 at hx
  refine Walk.seq (Walk.region' rfl fun K hK => ?_)
  simp only [go_sem, seval]
  refine hK _ ?_
  clear hK K
  refine Walk.block (Walk.loop ?_)
  refine Walk.weaken ⟨[(0, .box 0 0), (1, .fn 74 [.box 2 0]), (10, .d (.sl (List.map TRange.D v4))), (11, .d (.int .i64 (v4.length : Int))), (12, .d (.int .i64 0))], [(0, some (.box [.d (.sl (List.map TItem.D v1)), .arr 1 0 v2.length])), (1, some (.arr 32 3 (List.map Row.D v2))), (2, some (.box [.d (.sl (List.map TItem.D v3))]))]⟩ (by simp <;> omega) (by simp <;> omega) ?_
  refine Walk.iter (σ := Int × List Row) (fun g => ⟨[(0, .box 0 0), (1, .fn 74 [.box 2 0]), (10, .d (.sl (List.map TRange.D v4))), (11, .d (.int .i64 (v4.length : Int))), (12, .d (.int .i64 g.1))], [(0, some (.box [.d (.sl (List.map TItem.D v1)), .arr 1 0 g.2.length])), (1, some (.arr 32 3 (List.map Row.D g.2))), (2, some (.box [.d (.sl (List.map TItem.D v3))]))]⟩) (fun g : Int × List Row => blueprint_table_add__Rows_6_l0 v4 v1 v3 g.1 g.2) _ (fun g y562 hx ih465 hr466 => ?_) (0, v2) hx
  obtain ⟨v108, v109⟩ := g
  unfold blueprint_table_add__Rows_6_l0 at hx
  try dsimp only at hx ⊢
  refine Walk.seq (Walk.region' rfl fun K hK => ?_)
  simp only [go_sem, seval]
  refine hK _ ?_
  clear hK K
  refine Walk.seq (Walk.condO rfl hx (fun c468 hx => ?_) (fun c468 hx => ?_))
  · refine Walk.skip (Walk.seq (Walk.block (Walk.seq (Walk.region' rfl fun K hK => ?_))))
    obtain ⟨v135, r469, a470, b471, c472, hx⟩ := rd_elim hx
    simp only [go_sem, seval, c468, a470, b471, c472]
    repeat refine And.intro (by first | omega | (simp; done) | (simp; omega)) ?_
    refine hK _ ?_
    clear hK K
    refine Walk.seq (Walk.drawn' rfl mixed fun K hK => ?_)
    obtain ⟨k473, hx⟩ := chk_elim hx
    simp only [go_sem, seval, c468, a470, b471, c472, k473]
    repeat refine And.intro (by first | omega | (simp; done) | (simp; omega)) ?_
    refine hK _ _ (by kernel_rfl) (by simp [c468, a470, b471, c472, k473]) ?_
    clear hK K
    refine Walk.weaken ⟨[(0, .box 0 0), (1, .fn 74 [.box 2 0]), (7, .box 10 0), (8, .box 11 0), (10, .d (.sl (List.map TRange.D v4))), (11, .d (.int .i64 (v4.length : Int))), (12, .d (.int .i64 v108))], [(0, some (.box [.d (.sl (List.map TItem.D v1)), .arr 1 0 v109.length])), (1, some (.arr 32 3 (List.map Row.D v109))), (2, some (.box [.d (.sl (List.map TItem.D v3))])), (10, some (.box [.d (.int .i64 v135.Index), .d (.int .i64 v135.Least), .d (.int .i64 v135.Most)])), (11, some (.box [.arr 24 0 (((List.replicate ((v1.length : Int)).toNat (0 : Int))).length), .d (.int .i64 v135.Least), .d (.int .i64 v135.Most)])), (24, some (.arr 3 1 (List.map iD ((List.replicate ((v1.length : Int)).toNat (0 : Int))))))]⟩ (by simp [c468, a470, b471, c472, k473] <;> omega) (by simp [c468, a470, b471, c472, k473] <;> omega) ?_
    refine Walk.seq (Walk.seq (Walk.region' rfl fun K hK => ?_))
    simp only [go_sem, seval, c468, a470, b471, c472, k473]
    refine hK _ ?_
    clear hK K
    refine Walk.block (Walk.loop ?_)
    refine Walk.weaken ⟨[(0, .box 0 0), (1, .fn 74 [.box 2 0]), (7, .box 10 0), (8, .box 11 0), (10, .d (.sl (List.map TRange.D v4))), (11, .d (.int .i64 (v4.length : Int))), (12, .d (.int .i64 v108)), (31, .d (.int .i64 (v1.length : Int))), (32, .d (.int .i64 0))], [(0, some (.box [.d (.sl (List.map TItem.D v1)), .arr 1 0 v109.length])), (1, some (.arr 32 3 (List.map Row.D v109))), (2, some (.box [.d (.sl (List.map TItem.D v3))])), (10, some (.box [.d (.int .i64 v135.Index), .d (.int .i64 v135.Least), .d (.int .i64 v135.Most)])), (11, some (.box [.arr 24 0 (((List.replicate ((v1.length : Int)).toNat (0 : Int))).length), .d (.int .i64 v135.Least), .d (.int .i64 v135.Most)])), (24, some (.arr 3 1 (List.map iD ((List.replicate ((v1.length : Int)).toNat (0 : Int))))))]⟩ (by simp [c468, a470, b471, c472, k473] <;> omega) (by simp [c468, a470, b471, c472, k473] <;> omega) ?_
    refine Walk.iter (σ := Int × List Int) (fun g => ⟨[(0, .box 0 0), (1, .fn 74 [.box 2 0]), (7, .box 10 0), (8, .box 11 0), (10, .d (.sl (List.map TRange.D v4))), (11, .d (.int .i64 (v4.length : Int))), (12, .d (.int .i64 v108)), (31, .d (.int .i64 (v1.length : Int))), (32, .d (.int .i64 g.1))], [(0, some (.box [.d (.sl (List.map TItem.D v1)), .arr 1 0 v109.length])), (1, some (.arr 32 3 (List.map Row.D v109))), (2, some (.box [.d (.sl (List.map TItem.D v3))])), (10, some (.box [.d (.int .i64 v135.Index), .d (.int .i64 v135.Least), .d (.int .i64 v135.Most)])), (11, some (.box [.arr 24 0 g.2.length, .d (.int .i64 v135.Least), .d (.int .i64 v135.Most)])), (24, some (.arr 3 1 (List.map iD g.2)))]⟩) (fun g : Int × List Int => blueprint_table_add__Rows_6_l1 v1 v135 v3 v109 v108 g.1 g.2) _ (fun g y559 hx ih546 hr547 => ?_) (0, (List.replicate ((v1.length : Int)).toNat (0 : Int))) hx
    obtain ⟨v154, v155⟩ := g
    unfold blueprint_table_add__Rows_6_l1 at hx
    try dsimp only at hx ⊢
    refine Walk.seq (Walk.region' rfl fun K hK => ?_)
    simp only [go_sem, seval, c468, a470, b471, c472, k473]
    refine hK _ ?_
    clear hK K
    refine Walk.seq (Walk.condO rfl hx (fun c549 hx => ?_) (fun c549 hx => ?_))
    · refine Walk.skip (Walk.seq (Walk.block (Walk.seq (Walk.region' rfl fun K hK => ?_))))
      simp only [go_sem, seval, c468, a470, b471, c472, k473, c549]
      refine hK _ ?_
      clear hK K
      refine Walk.drawn' rfl mixed fun K hK => ?_
      obtain ⟨v158, h550, hx⟩ := bind_elim hx
      have w551 := ((blueprint_Rows_6_ok v135.Index v135.Least v135.Most v154 v3 _ h550).swap 0 2)
      simp only [renE, renL, AV.ren, AV.rens, AObj.ren, swp, Option.map_some, reduceIte, Nat.reduceEqDiff] at w551
      simp only [go_sem, seval, c468, a470, b471, c472, k473, c549]
      refine VCl.sub [(2, some (.box [.d (.sl (List.map TItem.D v3))]))] [] rfl (by simp only [go_sem, seval, AV.viewXs, AV.viewX, avD, c468, a470, b471, c472, k473, c549]; try simp) (w551) (by simp [c468, a470, b471, c472, k473, c549]) (by simp [c468, a470, b471, c472, k473, c549]) (by simp [c468, a470, b471, c472, k473, c549]) (by simp [c468, a470, b471, c472, k473, c549]) (by simp [c468, a470, b471, c472, k473, c549]) (by simp [c468, a470, b471, c472, k473, c549]) (by simp [c468, a470, b471, c472, k473, c549]) (by simp [c468, a470, b471, c472, k473, c549]) (by simp [c468, a470, b471, c472, k473, c549]) (by simp [c468, a470, b471, c472, k473, c549]) ?_
      obtain ⟨v159, r552, a553, b554, c555, hx⟩ := rd_elim hx
      simp only [go_sem, seval, c468, a470, b471, c472, k473, c549, a553, b554, c555]
      repeat refine And.intro (by first | omega | (simp; done) | (simp; omega)) ?_
      refine hK _ _ (by kernel_rfl) (by simp [c468, a470, b471, c472, k473, c549, a553, b554, c555]) ?_
      clear hK K
      refine Walk.weaken ⟨[(0, .box 0 0), (1, .fn 74 [.box 2 0]), (7, .box 10 0), (8, .box 11 0), (10, .d (.sl (List.map TRange.D v4))), (11, .d (.int .i64 (v4.length : Int))), (12, .d (.int .i64 v108)), (31, .d (.int .i64 (v1.length : Int))), (32, .d (.int .i64 v154))], [(0, some (.box [.d (.sl (List.map TItem.D v1)), .arr 1 0 v109.length])), (1, some (.arr 32 3 (List.map Row.D v109))), (2, some (.box [.d (.sl (List.map TItem.D v3))])), (10, some (.box [.d (.int .i64 v135.Index), .d (.int .i64 v135.Least), .d (.int .i64 v135.Most)])), (11, some (.box [.arr 24 0 (((v155.set (v154).toNat v158)).length), .d (.int .i64 v135.Least), .d (.int .i64 v135.Most)])), (24, some (.arr 3 1 (List.map iD ((v155.set (v154).toNat v158)))))]⟩ (by simp [c468, a470, b471, c472, k473, c549, a553, b554, c555] <;> omega) (by simp [c468, a470, b471, c472, k473, c549, a553, b554, c555] <;> omega) ?_
      refine Walk.inBlock (Walk.region' rfl fun K hK => ?_)
      simp only [go_sem, seval, c468, a470, b471, c472, k473, c549, a553, b554, c555]
      refine hK _ ?_
      clear hK K
      exact Walk.weaken _ (by simp [c468, a470, b471, c472, k473, c549, a553, b554, c555] <;> omega) (by simp [c468, a470, b471, c472, k473, c549, a553, b554, c555] <;> omega) (ih546 _ (cont_elim hx))
    refine Walk.exit rfl ?_
    obtain ⟨z556, e557, hx⟩ := exit_elim hx
    rw [hr547 z556 e557] at hx
    refine Walk.drawn' rfl mixed fun K hK => ?_
    obtain ⟨k558, hx⟩ := chk_elim hx
    simp only [go_sem, seval, c468, a470, b471, c472, k473, c549, k558]
    repeat refine And.intro (by first | omega | (simp; done) | (simp; omega)) ?_
    refine hK _ _ (by kernel_rfl) (by simp [c468, a470, b471, c472, k473, c549, k558]) ?_
    clear hK K
    refine Walk.weaken ⟨[(0, .box 0 0), (1, .fn 74 [.box 2 0]), (10, .d (.sl (List.map TRange.D v4))), (11, .d (.int .i64 (v4.length : Int))), (12, .d (.int .i64 v108))], [(0, some (.box [.d (.sl (List.map TItem.D v1)), .arr 1 0 (((v109 ++ [(Row.mk v155 v135.Least v135.Most)])).length)])), (1, some (.arr 32 3 (List.map Row.D ((v109 ++ [(Row.mk v155 v135.Least v135.Most)]))))), (2, some (.box [.d (.sl (List.map TItem.D v3))]))]⟩ (by simp [c468, a470, b471, c472, k473, c549, k558] <;> omega) (by simp [c468, a470, b471, c472, k473, c549, k558] <;> omega) ?_
    refine Walk.inBlock (Walk.region' rfl fun K hK => ?_)
    simp only [go_sem, seval, c468, a470, b471, c472, k473, c549, k558]
    refine hK _ ?_
    clear hK K
    exact Walk.weaken _ (by simp [c468, a470, b471, c472, k473, c549, k558] <;> omega) (by simp [c468, a470, b471, c472, k473, c549, k558] <;> omega) (ih465 _ (cont_elim hx))
  refine Walk.exit rfl ?_
  obtain ⟨z560, e561, hx⟩ := exit_elim hx
  rw [hr466 z560 e561] at hx
  obtain rfl := Option.some.inj hx
  exact Walk.done ⟨by simp [c468], by simp [c468]⟩
noncomputable def blueprint_Rows_7 (v1 : Int) (v2 : Int) (v3 : Int) (v4 : Int) (v5 : Int) (v6 : Int) : Option (Int) :=
  bif decide (v4 = v5) then ((blueprint_one true).bind fun v10 => some (v10 : Int)) else ((blueprint_one (decide (v4 = v6))).bind fun v11 => some (v11 : Int))
theorem blueprint_Rows_7_ok (v1 : Int) (v2 : Int) (v3 : Int) (v4 : Int) (v5 : Int) (v6 : Int) (r : Int) (hx : blueprint_Rows_7 v1 v2 v3 v4 v5 v6 = some r) :
    ACalls Try.prog 77 [.agg [.d (.int .i64 v1), .d (.int .i64 v2), .d (.int .i64 v3)], .d (.int .i64 v4), .box 0 0, .box 1 0] [(0, some (.box [.d (.int .i64 v5)])), (1, some (.box [.d (.int .i64 v6)]))] (.d (.int .i64 r)) [(0, some (.box [.d (.int .i64 v5)])), (1, some (.box [.d (.int .i64 v6)]))] := by
  refine ACalls.of_sem (n := 16) 2 [6] (fn := Try.f77) Try.func77 rfl rfl (.one rfl) rfl (by simp) (by intro i; simp only [hget]; (repeat' split) <;> simp <;> omega) ?_
  unfold blueprint_Rows_7 at hx
  refine Walk.seq (Walk.region' rfl fun K hK => ?_)
  simp only [go_sem, seval]
  refine hK _ ?_
  clear hK K
  refine Walk.seq (Walk.region' rfl fun K hK => ?_)
  simp only [go_sem, seval]
  refine VGdO hx (fun g4 hx => ?_) (fun g4 hx => ?_)
  · obtain ⟨v10, h5, hx⟩ := bind_elim hx
    simp only [go_sem, seval, g4]
    refine VCl.pure rfl (by simp only [go_sem, seval, g4]; try simp) (blueprint_one_ok true _ h5) (by simp only [go_sem, seval, g4]; try simp) (by simp only [go_sem, seval, g4]; try simp) (by simp only [go_sem, seval, g4]; try simp) (by simp only [go_sem, seval, g4]; try simp) (by simp only [go_sem, seval, g4]; try simp) (by simp only [go_sem, seval, g4]; try simp) ?_
    simp only [go_sem, seval, g4]
    refine hK _ ?_
    clear hK K
    obtain rfl := Option.some.inj hx
    exact Walk.ret ⟨by simp [g4], by simp [g4]⟩
  obtain ⟨v11, h6, hx⟩ := bind_elim hx
  simp only [go_sem, seval, g4]
  refine VCl.pure rfl (by simp only [go_sem, seval, g4]; try simp) (blueprint_one_ok (decide (v4 = v6)) _ h6) (by simp only [go_sem, seval, g4]; try simp) (by simp only [go_sem, seval, g4]; try simp) (by simp only [go_sem, seval, g4]; try simp) (by simp only [go_sem, seval, g4]; try simp) (by simp only [go_sem, seval, g4]; try simp) (by simp only [go_sem, seval, g4]; try simp) ?_
  simp only [go_sem, seval, g4]
  refine hK _ ?_
  clear hK K
  obtain rfl := Option.some.inj hx
  exact Walk.ret ⟨by simp [g4], by simp [g4]⟩
noncomputable def blueprint_table_add__Rows_7_l1 (v1 : List TItem) (v136 : TRange) (v3 : Int) (v4 : Int) (v110 : List Row) (v109 : Int) (v155 : Int) (v156 : List Int) : Option ((Int × List Int) ⊕ ((Int × List Row) ⊕ (List Row))) :=
  bif decide (v155 < (v1.length : Int)) then ((blueprint_Rows_7 v136.Index v136.Least v136.Most v155 v3 v4).bind fun v159 => (rd v156 v155).bind fun v160 => contO ((IntKind.i64.wrap (v155 + 1), (v156.set (v155).toNat v159)) : Int × List Int)) else (exitO (chk ((v110.length + 1) * 40 ≤ 140737488355328) (contO ((IntKind.i64.wrap (v109 + 1), (v110 ++ [(Row.mk v156 v136.Least v136.Most)])) : Int × List Row))))
noncomputable def blueprint_table_add__Rows_7_l0 (v5 : List TRange) (v1 : List TItem) (v3 : Int) (v4 : Int) (v109 : Int) (v110 : List Row) : Option ((Int × List Row) ⊕ (List Row)) :=
  bif decide (v109 < (v5.length : Int)) then ((rd v5 v109).bind fun v136 => chk ((0 : Int) ≤ (v1.length : Int) ∧ (v1.length : Int) = (v1.length : Int) ∧ 8 * (v1.length : Int) ≤ 281474976710656 ∧ (v1.length : Int) ≤ 281474976710656) (iter (fun g : Int × List Int => blueprint_table_add__Rows_7_l1 v1 v136 v3 v4 v110 v109 g.1 g.2) (0, (List.replicate ((v1.length : Int)).toNat (0 : Int))))) else (exitO (some (v110 : List Row)))
noncomputable def blueprint_table_add__Rows_7 (v1 : List TItem) (v2 : List Row) (v3 : Int) (v4 : Int) (v5 : List TRange) : Option (List Row) :=
  iter (fun g : Int × List Row => blueprint_table_add__Rows_7_l0 v5 v1 v3 v4 g.1 g.2) (0, v2)
theorem blueprint_table_add__Rows_7_ok (v1 : List TItem) (v2 : List Row) (v3 : Int) (v4 : Int) (v5 : List TRange) (r : List Row) (hx : blueprint_table_add__Rows_7 v1 v2 v3 v4 v5 = some r) :
    ACalls Try.prog 65 [.box 0 0, .fn 77 [.box 2 0, .box 3 0], .d (.sl (List.map TRange.D v5))] [(0, some (.box [.d (.sl (List.map TItem.D v1)), .arr 1 0 v2.length])), (1, some (.arr 32 3 (List.map Row.D v2))), (2, some (.box [.d (.int .i64 v3)])), (3, some (.box [.d (.int .i64 v4)]))] (.tup []) [(0, some (.box [.d (.sl (List.map TItem.D v1)), .arr 1 0 r.length])), (1, some (.arr 32 3 (List.map Row.D r))), (2, some (.box [.d (.int .i64 v3)])), (3, some (.box [.d (.int .i64 v4)]))] := by
  refine ACalls.of_sem (n := 55) 4 [] (fn := Try.f65) Try.func65 rfl rfl (.zero rfl) rfl (by simp) (by intro i; simp only [hget]; (repeat' split) <;> simp <;> omega) ?_
  unfold blueprint_table_add__Rows_7 at hx
  refine Walk.seq (Walk.region' rfl fun K hK => ?_)
  simp only [go_sem, seval]
  refine hK _ ?_
  clear hK K
  refine Walk.block (Walk.loop ?_)
  refine Walk.weaken ⟨[(0, .box 0 0), (1, .fn 77 [.box 2 0, .box 3 0]), (10, .d (.sl (List.map TRange.D v5))), (11, .d (.int .i64 (v5.length : Int))), (12, .d (.int .i64 0))], [(0, some (.box [.d (.sl (List.map TItem.D v1)), .arr 1 0 v2.length])), (1, some (.arr 32 3 (List.map Row.D v2))), (2, some (.box [.d (.int .i64 v3)])), (3, some (.box [.d (.int .i64 v4)]))]⟩ (by simp <;> omega) (by simp <;> omega) ?_
  refine Walk.iter (σ := Int × List Row) (fun g => ⟨[(0, .box 0 0), (1, .fn 77 [.box 2 0, .box 3 0]), (10, .d (.sl (List.map TRange.D v5))), (11, .d (.int .i64 (v5.length : Int))), (12, .d (.int .i64 g.1))], [(0, some (.box [.d (.sl (List.map TItem.D v1)), .arr 1 0 g.2.length])), (1, some (.arr 32 3 (List.map Row.D g.2))), (2, some (.box [.d (.int .i64 v3)])), (3, some (.box [.d (.int .i64 v4)]))]⟩) (fun g : Int × List Row => blueprint_table_add__Rows_7_l0 v5 v1 v3 v4 g.1 g.2) _ (fun g y562 hx ih465 hr466 => ?_) (0, v2) hx
  obtain ⟨v109, v110⟩ := g
  unfold blueprint_table_add__Rows_7_l0 at hx
  try dsimp only at hx ⊢
  refine Walk.seq (Walk.region' rfl fun K hK => ?_)
  simp only [go_sem, seval]
  refine hK _ ?_
  clear hK K
  refine Walk.seq (Walk.condO rfl hx (fun c468 hx => ?_) (fun c468 hx => ?_))
  · refine Walk.skip (Walk.seq (Walk.block (Walk.seq (Walk.region' rfl fun K hK => ?_))))
    obtain ⟨v136, r469, a470, b471, c472, hx⟩ := rd_elim hx
    simp only [go_sem, seval, c468, a470, b471, c472]
    repeat refine And.intro (by first | omega | (simp; done) | (simp; omega)) ?_
    refine hK _ ?_
    clear hK K
    refine Walk.seq (Walk.drawn' rfl mixed fun K hK => ?_)
    obtain ⟨k473, hx⟩ := chk_elim hx
    simp only [go_sem, seval, c468, a470, b471, c472, k473]
    repeat refine And.intro (by first | omega | (simp; done) | (simp; omega)) ?_
    refine hK _ _ (by kernel_rfl) (by simp [c468, a470, b471, c472, k473]) ?_
    clear hK K
    refine Walk.weaken ⟨[(0, .box 0 0), (1, .fn 77 [.box 2 0, .box 3 0]), (7, .box 11 0), (8, .box 12 0), (10, .d (.sl (List.map TRange.D v5))), (11, .d (.int .i64 (v5.length : Int))), (12, .d (.int .i64 v109))], [(0, some (.box [.d (.sl (List.map TItem.D v1)), .arr 1 0 v110.length])), (1, some (.arr 32 3 (List.map Row.D v110))), (2, some (.box [.d (.int .i64 v3)])), (3, some (.box [.d (.int .i64 v4)])), (11, some (.box [.d (.int .i64 v136.Index), .d (.int .i64 v136.Least), .d (.int .i64 v136.Most)])), (12, some (.box [.arr 25 0 (((List.replicate ((v1.length : Int)).toNat (0 : Int))).length), .d (.int .i64 v136.Least), .d (.int .i64 v136.Most)])), (25, some (.arr 3 1 (List.map iD ((List.replicate ((v1.length : Int)).toNat (0 : Int))))))]⟩ (by simp [c468, a470, b471, c472, k473] <;> omega) (by simp [c468, a470, b471, c472, k473] <;> omega) ?_
    refine Walk.seq (Walk.seq (Walk.region' rfl fun K hK => ?_))
    simp only [go_sem, seval, c468, a470, b471, c472, k473]
    refine hK _ ?_
    clear hK K
    refine Walk.block (Walk.loop ?_)
    refine Walk.weaken ⟨[(0, .box 0 0), (1, .fn 77 [.box 2 0, .box 3 0]), (7, .box 11 0), (8, .box 12 0), (10, .d (.sl (List.map TRange.D v5))), (11, .d (.int .i64 (v5.length : Int))), (12, .d (.int .i64 v109)), (31, .d (.int .i64 (v1.length : Int))), (32, .d (.int .i64 0))], [(0, some (.box [.d (.sl (List.map TItem.D v1)), .arr 1 0 v110.length])), (1, some (.arr 32 3 (List.map Row.D v110))), (2, some (.box [.d (.int .i64 v3)])), (3, some (.box [.d (.int .i64 v4)])), (11, some (.box [.d (.int .i64 v136.Index), .d (.int .i64 v136.Least), .d (.int .i64 v136.Most)])), (12, some (.box [.arr 25 0 (((List.replicate ((v1.length : Int)).toNat (0 : Int))).length), .d (.int .i64 v136.Least), .d (.int .i64 v136.Most)])), (25, some (.arr 3 1 (List.map iD ((List.replicate ((v1.length : Int)).toNat (0 : Int))))))]⟩ (by simp [c468, a470, b471, c472, k473] <;> omega) (by simp [c468, a470, b471, c472, k473] <;> omega) ?_
    refine Walk.iter (σ := Int × List Int) (fun g => ⟨[(0, .box 0 0), (1, .fn 77 [.box 2 0, .box 3 0]), (7, .box 11 0), (8, .box 12 0), (10, .d (.sl (List.map TRange.D v5))), (11, .d (.int .i64 (v5.length : Int))), (12, .d (.int .i64 v109)), (31, .d (.int .i64 (v1.length : Int))), (32, .d (.int .i64 g.1))], [(0, some (.box [.d (.sl (List.map TItem.D v1)), .arr 1 0 v110.length])), (1, some (.arr 32 3 (List.map Row.D v110))), (2, some (.box [.d (.int .i64 v3)])), (3, some (.box [.d (.int .i64 v4)])), (11, some (.box [.d (.int .i64 v136.Index), .d (.int .i64 v136.Least), .d (.int .i64 v136.Most)])), (12, some (.box [.arr 25 0 g.2.length, .d (.int .i64 v136.Least), .d (.int .i64 v136.Most)])), (25, some (.arr 3 1 (List.map iD g.2)))]⟩) (fun g : Int × List Int => blueprint_table_add__Rows_7_l1 v1 v136 v3 v4 v110 v109 g.1 g.2) _ (fun g y559 hx ih546 hr547 => ?_) (0, (List.replicate ((v1.length : Int)).toNat (0 : Int))) hx
    obtain ⟨v155, v156⟩ := g
    unfold blueprint_table_add__Rows_7_l1 at hx
    try dsimp only at hx ⊢
    refine Walk.seq (Walk.region' rfl fun K hK => ?_)
    simp only [go_sem, seval, c468, a470, b471, c472, k473]
    refine hK _ ?_
    clear hK K
    refine Walk.seq (Walk.condO rfl hx (fun c549 hx => ?_) (fun c549 hx => ?_))
    · refine Walk.skip (Walk.seq (Walk.block (Walk.seq (Walk.region' rfl fun K hK => ?_))))
      simp only [go_sem, seval, c468, a470, b471, c472, k473, c549]
      refine hK _ ?_
      clear hK K
      refine Walk.drawn' rfl mixed fun K hK => ?_
      obtain ⟨v159, h550, hx⟩ := bind_elim hx
      have w551 := (((blueprint_Rows_7_ok v136.Index v136.Least v136.Most v155 v3 v4 _ h550).swap 0 2).swap 1 3)
      simp only [renE, renL, AV.ren, AV.rens, AObj.ren, swp, Option.map_some, reduceIte, Nat.reduceEqDiff] at w551
      simp only [go_sem, seval, c468, a470, b471, c472, k473, c549]
      refine VCl.sub [(2, some (.box [.d (.int .i64 v3)])), (3, some (.box [.d (.int .i64 v4)]))] [] rfl (by simp only [go_sem, seval, AV.viewXs, AV.viewX, avD, c468, a470, b471, c472, k473, c549]; try simp) (w551) (by simp [c468, a470, b471, c472, k473, c549]) (by simp [c468, a470, b471, c472, k473, c549]) (by simp [c468, a470, b471, c472, k473, c549]) (by simp [c468, a470, b471, c472, k473, c549]) (by simp [c468, a470, b471, c472, k473, c549]) (by simp [c468, a470, b471, c472, k473, c549]) (by simp [c468, a470, b471, c472, k473, c549]) (by simp [c468, a470, b471, c472, k473, c549]) (by simp [c468, a470, b471, c472, k473, c549]) (by simp [c468, a470, b471, c472, k473, c549]) ?_
      obtain ⟨v160, r552, a553, b554, c555, hx⟩ := rd_elim hx
      simp only [go_sem, seval, c468, a470, b471, c472, k473, c549, a553, b554, c555]
      repeat refine And.intro (by first | omega | (simp; done) | (simp; omega)) ?_
      refine hK _ _ (by kernel_rfl) (by simp [c468, a470, b471, c472, k473, c549, a553, b554, c555]) ?_
      clear hK K
      refine Walk.weaken ⟨[(0, .box 0 0), (1, .fn 77 [.box 2 0, .box 3 0]), (7, .box 11 0), (8, .box 12 0), (10, .d (.sl (List.map TRange.D v5))), (11, .d (.int .i64 (v5.length : Int))), (12, .d (.int .i64 v109)), (31, .d (.int .i64 (v1.length : Int))), (32, .d (.int .i64 v155))], [(0, some (.box [.d (.sl (List.map TItem.D v1)), .arr 1 0 v110.length])), (1, some (.arr 32 3 (List.map Row.D v110))), (2, some (.box [.d (.int .i64 v3)])), (3, some (.box [.d (.int .i64 v4)])), (11, some (.box [.d (.int .i64 v136.Index), .d (.int .i64 v136.Least), .d (.int .i64 v136.Most)])), (12, some (.box [.arr 25 0 (((v156.set (v155).toNat v159)).length), .d (.int .i64 v136.Least), .d (.int .i64 v136.Most)])), (25, some (.arr 3 1 (List.map iD ((v156.set (v155).toNat v159)))))]⟩ (by simp [c468, a470, b471, c472, k473, c549, a553, b554, c555] <;> omega) (by simp [c468, a470, b471, c472, k473, c549, a553, b554, c555] <;> omega) ?_
      refine Walk.inBlock (Walk.region' rfl fun K hK => ?_)
      simp only [go_sem, seval, c468, a470, b471, c472, k473, c549, a553, b554, c555]
      refine hK _ ?_
      clear hK K
      exact Walk.weaken _ (by simp [c468, a470, b471, c472, k473, c549, a553, b554, c555] <;> omega) (by simp [c468, a470, b471, c472, k473, c549, a553, b554, c555] <;> omega) (ih546 _ (cont_elim hx))
    refine Walk.exit rfl ?_
    obtain ⟨z556, e557, hx⟩ := exit_elim hx
    rw [hr547 z556 e557] at hx
    refine Walk.drawn' rfl mixed fun K hK => ?_
    obtain ⟨k558, hx⟩ := chk_elim hx
    simp only [go_sem, seval, c468, a470, b471, c472, k473, c549, k558]
    repeat refine And.intro (by first | omega | (simp; done) | (simp; omega)) ?_
    refine hK _ _ (by kernel_rfl) (by simp [c468, a470, b471, c472, k473, c549, k558]) ?_
    clear hK K
    refine Walk.weaken ⟨[(0, .box 0 0), (1, .fn 77 [.box 2 0, .box 3 0]), (10, .d (.sl (List.map TRange.D v5))), (11, .d (.int .i64 (v5.length : Int))), (12, .d (.int .i64 v109))], [(0, some (.box [.d (.sl (List.map TItem.D v1)), .arr 1 0 (((v110 ++ [(Row.mk v156 v136.Least v136.Most)])).length)])), (1, some (.arr 32 3 (List.map Row.D ((v110 ++ [(Row.mk v156 v136.Least v136.Most)]))))), (2, some (.box [.d (.int .i64 v3)])), (3, some (.box [.d (.int .i64 v4)]))]⟩ (by simp [c468, a470, b471, c472, k473, c549, k558] <;> omega) (by simp [c468, a470, b471, c472, k473, c549, k558] <;> omega) ?_
    refine Walk.inBlock (Walk.region' rfl fun K hK => ?_)
    simp only [go_sem, seval, c468, a470, b471, c472, k473, c549, k558]
    refine hK _ ?_
    clear hK K
    exact Walk.weaken _ (by simp [c468, a470, b471, c472, k473, c549, k558] <;> omega) (by simp [c468, a470, b471, c472, k473, c549, k558] <;> omega) (ih465 _ (cont_elim hx))
  refine Walk.exit rfl ?_
  obtain ⟨z560, e561, hx⟩ := exit_elim hx
  rw [hr466 z560 e561] at hx
  obtain rfl := Option.some.inj hx
  exact Walk.done ⟨by simp [c468], by simp [c468]⟩
noncomputable def slices_Index_int_l0 (v1 : List Int) (v2 : Int) (v9 : Int) : Option ((Int) ⊕ (Int)) :=
  bif decide (v9 < (v1.length : Int)) then ((rd v1 v9).bind fun v11 => bif decide (v2 = v11) then (exitO (some (v9 : Int))) else (contO (IntKind.i64.wrap (v9 + 1) : Int))) else (exitO (some (-1 : Int)))
noncomputable def slices_Index_int (v1 : List Int) (v2 : Int) : Option (Int) :=
  iter (fun g : Int => slices_Index_int_l0 v1 v2 g) 0
theorem slices_Index_int_ok (v1 : List Int) (v2 : Int) (r : Int) (hx : slices_Index_int v1 v2 = some r) :
    ACalls Try.prog 111 [.d (.sl (List.map iD v1)), .d (.int .i64 v2)] [] (.d (.int .i64 r)) [] := by
  refine ACalls.of_sem (n := 19) 0 [4] (fn := Try.f111) Try.func111 rfl rfl (.one rfl) rfl (by simp) (by intro i; simp only [hget]; (repeat' split) <;> simp <;> omega) ?_
  unfold slices_Index_int at hx
  refine Walk.seq (Walk.region' rfl fun K hK => ?_)
  simp only [go_sem, seval]
  refine hK _ ?_
  clear hK K
  refine Walk.seq (Walk.seq (Walk.region' rfl fun K hK => ?_))
  simp only [go_sem, seval]
  refine hK _ ?_
  clear hK K
  refine Walk.block (Walk.loop ?_)
  refine Walk.weaken ⟨[(0, .d (.sl (List.map iD v1))), (1, .d (.int .i64 v2)), (7, .d (.int .i64 (v1.length : Int))), (8, .d (.int .i64 0))], []⟩ (by simp <;> omega) (by simp <;> omega) ?_
  refine Walk.iter (σ := Int) (fun g => ⟨[(0, .d (.sl (List.map iD v1))), (1, .d (.int .i64 v2)), (7, .d (.int .i64 (v1.length : Int))), (8, .d (.int .i64 g))], []⟩) (fun g : Int => slices_Index_int_l0 v1 v2 g) _ (fun v9 y53 hx ih40 hr41 => ?_) 0 hx
  unfold slices_Index_int_l0 at hx
  try dsimp only at hx ⊢
  refine Walk.seq (Walk.region' rfl fun K hK => ?_)
  simp only [go_sem, seval]
  refine hK _ ?_
  clear hK K
  refine Walk.seq (Walk.condO rfl hx (fun c43 hx => ?_) (fun c43 hx => ?_))
  · refine Walk.skip (Walk.seq (Walk.block (Walk.seq (Walk.region' rfl fun K hK => ?_))))
    simp only [go_sem, seval, c43]
    refine hK _ ?_
    clear hK K
    refine Walk.seq (Walk.region' rfl fun K hK => ?_)
    obtain ⟨v11, r44, a45, b46, c47, hx⟩ := rd_elim hx
    simp only [go_sem, seval, c43, a45, b46, c47]
    repeat refine And.intro (by first | omega | (simp; done) | (simp; omega)) ?_
    refine hK _ ?_
    clear hK K
    refine Walk.condO rfl hx (fun c48 hx => ?_) (fun c48 hx => ?_)
    · refine Walk.seq (Walk.region' rfl fun K hK => ?_)
      simp only [go_sem, seval, c43, a45, b46, c47, c48]
      refine hK _ ?_
      clear hK K
      obtain ⟨z49, e50, hx⟩ := exit_elim hx
      rw [hr41 z49 e50] at hx
      obtain rfl := Option.some.inj hx
      exact Walk.ret ⟨by simp [c43, a45, b46, c47, c48], by simp [c43, a45, b46, c47, c48]⟩
    refine Walk.skip (Walk.inBlock (Walk.region' rfl fun K hK => ?_))
    simp only [go_sem, seval, c43, a45, b46, c47, c48]
    refine hK _ ?_
    clear hK K
    exact Walk.weaken _ (by simp [c43, a45, b46, c47, c48] <;> omega) (by simp [c43, a45, b46, c47, c48] <;> omega) (ih40 _ (cont_elim hx))
  refine Walk.exit rfl ?_
  obtain ⟨z51, e52, hx⟩ := exit_elim hx
  rw [hr41 z51 e52] at hx
  refine Walk.seq (Walk.region' rfl fun K hK => ?_)
  simp only [go_sem, seval, c43]
  refine hK _ ?_
  clear hK K
  obtain rfl := Option.some.inj hx
  exact Walk.ret ⟨by simp [c43], by simp [c43]⟩
noncomputable def slices_Contains_int (v1 : List Int) (v2 : Int) : Option (Bool) :=
  (slices_Index_int v1 v2).bind fun v5 => some (decide (v5 ≥ 0) : Bool)
theorem slices_Contains_int_ok (v1 : List Int) (v2 : Int) (r : Bool) (hx : slices_Contains_int v1 v2 = some r) :
    ACalls Try.prog 102 [.d (.sl (List.map iD v1)), .d (.int .i64 v2)] [] (.d (.bool r)) [] := by
  refine ACalls.of_sem (n := 9) 0 [4] (fn := Try.f102) Try.func102 rfl rfl (.one rfl) rfl (by simp) (by intro i; simp only [hget]; (repeat' split) <;> simp <;> omega) ?_
  unfold slices_Contains_int at hx
  refine Walk.seq (Walk.region' rfl fun K hK => ?_)
  simp only [go_sem, seval]
  refine hK _ ?_
  clear hK K
  refine Walk.seq (Walk.region' rfl fun K hK => ?_)
  obtain ⟨v5, h2, hx⟩ := bind_elim hx
  simp only [go_sem, seval]
  refine VCl.pure rfl (by simp only [go_sem, seval]; try simp) (slices_Index_int_ok v1 v2 _ h2) (by simp only [go_sem, seval]; try simp) (by simp only [go_sem, seval]; try simp) (by simp only [go_sem, seval]; try simp) (by simp only [go_sem, seval]; try simp) (by simp only [go_sem, seval]; try simp) (by simp only [go_sem, seval]; try simp) ?_
  simp only [go_sem, seval]
  refine hK _ ?_
  clear hK K
  obtain rfl := Option.some.inj hx
  exact Walk.ret ⟨by simp, by simp⟩
noncomputable def item_Enemy (v1 : Int) (v2 : Int) (v3 : List UInt8) (v4 : List Part) (v5 : List Int) (v6 : Int) (v7 : Int) (v8 : List UInt8) (v9 : List Part) (v10 : List Int) : Option (Bool) :=
  (item_Check v1 v2 v3 v4 v5).bind fun v16 => bif decide (v16 = 0) then ((item_Check v6 v7 v8 v9 v10).bind fun v17 => bif decide (v17 = 0) then (bif decide (¬ v1 = v6) then ((slices_Contains_int v5 v6).bind fun v18 => bif v18 then (some (true : Bool)) else ((slices_Contains_int v10 v1).bind fun v19 => some (v19 : Bool))) else (some (false : Bool))) else (some (false : Bool))) else (some (false : Bool))
theorem item_Enemy_ok (v1 : Int) (v2 : Int) (v3 : List UInt8) (v4 : List Part) (v5 : List Int) (v6 : Int) (v7 : Int) (v8 : List UInt8) (v9 : List Part) (v10 : List Int) (r : Bool) (hx : item_Enemy v1 v2 v3 v4 v5 v6 v7 v8 v9 v10 = some r) :
    ACalls Try.prog 76 [.agg [.d (.int .i64 v1), .d (.int .i64 v2), .d (.str v3), .d (.sl (List.map Part.D v4)), .d (.sl (List.map iD v5))], .agg [.d (.int .i64 v6), .d (.int .i64 v7), .d (.str v8), .d (.sl (List.map Part.D v9)), .d (.sl (List.map iD v10))]] [] (.d (.bool r)) [] := by
  refine ACalls.of_sem (n := 34) 0 [4] (fn := Try.f76) Try.func76 rfl rfl (.one rfl) rfl (by simp) (by intro i; simp only [hget]; (repeat' split) <;> simp <;> omega) ?_
  unfold item_Enemy at hx
  refine Walk.seq (Walk.region' rfl fun K hK => ?_)
  simp only [go_sem, seval]
  refine hK _ ?_
  clear hK K
  refine Walk.seq (Walk.region' rfl fun K hK => ?_)
  obtain ⟨v16, h9, hx⟩ := bind_elim hx
  simp only [go_sem, seval]
  refine VCl.pure rfl (by simp only [go_sem, seval]; try simp) (item_Check_ok v1 v2 v3 v4 v5 _ h9) (by simp only [go_sem, seval]; try simp) (by simp only [go_sem, seval]; try simp) (by simp only [go_sem, seval]; try simp) (by simp only [go_sem, seval]; try simp) (by simp only [go_sem, seval]; try simp) (by simp only [go_sem, seval]; try simp) ?_
  simp only [go_sem, seval]
  refine VGdO hx (fun g10 hx => ?_) (fun g10 hx => ?_)
  · obtain ⟨v17, h11, hx⟩ := bind_elim hx
    simp only [go_sem, seval, g10]
    refine VCl.pure rfl (by simp only [go_sem, seval, g10]; try simp) (item_Check_ok v6 v7 v8 v9 v10 _ h11) (by simp only [go_sem, seval, g10]; try simp) (by simp only [go_sem, seval, g10]; try simp) (by simp only [go_sem, seval, g10]; try simp) (by simp only [go_sem, seval, g10]; try simp) (by simp only [go_sem, seval, g10]; try simp) (by simp only [go_sem, seval, g10]; try simp) ?_
    simp only [go_sem, seval, g10]
    refine VGdO hx (fun g12 hx => ?_) (fun g12 hx => ?_)
    · simp only [go_sem, seval, g10, g12]
      refine VGdO hx (fun g13 hx => ?_) (fun g13 hx => ?_)
      · obtain ⟨v18, h14, hx⟩ := bind_elim hx
        simp only [go_sem, seval, g10, g12, g13]
        refine VCl.pure rfl (by simp only [go_sem, seval, g10, g12, g13]; try simp) (slices_Contains_int_ok v5 v6 _ h14) (by simp only [go_sem, seval, g10, g12, g13]; try simp) (by simp only [go_sem, seval, g10, g12, g13]; try simp) (by simp only [go_sem, seval, g10, g12, g13]; try simp) (by simp only [go_sem, seval, g10, g12, g13]; try simp) (by simp only [go_sem, seval, g10, g12, g13]; try simp) (by simp only [go_sem, seval, g10, g12, g13]; try simp) ?_
        simp only [go_sem, seval, g10, g12, g13]
        refine VGdO hx (fun g15 hx => ?_) (fun g15 hx => ?_)
        · simp only [go_sem, seval, g10, g12, g13, g15]
          refine hK _ ?_
          clear hK K
          obtain rfl := Option.some.inj hx
          exact Walk.ret ⟨by simp [g10, g12, g13, g15], by simp [g10, g12, g13, g15]⟩
        obtain ⟨v19, h16, hx⟩ := bind_elim hx
        simp only [go_sem, seval, g10, g12, g13, g15]
        refine VCl.pure rfl (by simp only [go_sem, seval, g10, g12, g13, g15]; try simp) (slices_Contains_int_ok v10 v1 _ h16) (by simp only [go_sem, seval, g10, g12, g13, g15]; try simp) (by simp only [go_sem, seval, g10, g12, g13, g15]; try simp) (by simp only [go_sem, seval, g10, g12, g13, g15]; try simp) (by simp only [go_sem, seval, g10, g12, g13, g15]; try simp) (by simp only [go_sem, seval, g10, g12, g13, g15]; try simp) (by simp only [go_sem, seval, g10, g12, g13, g15]; try simp) ?_
        simp only [go_sem, seval, g10, g12, g13, g15]
        refine hK _ ?_
        clear hK K
        obtain rfl := Option.some.inj hx
        exact Walk.ret ⟨by simp [g10, g12, g13, g15], by simp [g10, g12, g13, g15]⟩
      simp only [go_sem, seval, g10, g12, g13]
      refine hK _ ?_
      clear hK K
      obtain rfl := Option.some.inj hx
      exact Walk.ret ⟨by simp [g10, g12, g13], by simp [g10, g12, g13]⟩
    simp only [go_sem, seval, g10, g12]
    refine hK _ ?_
    clear hK K
    obtain rfl := Option.some.inj hx
    exact Walk.ret ⟨by simp [g10, g12], by simp [g10, g12]⟩
  simp only [go_sem, seval, g10]
  refine hK _ ?_
  clear hK K
  obtain rfl := Option.some.inj hx
  exact Walk.ret ⟨by simp [g10], by simp [g10]⟩
noncomputable def slices_Index_Ref_l0 (v1 : List Ref) (v2 : Int) (v3 : Int) (v10 : Int) : Option ((Int) ⊕ (Int)) :=
  bif decide (v10 < (v1.length : Int)) then ((rd v1 v10).bind fun v12 => bif decide (v2 = v12.ID) && decide (v3 = v12.Version) then (exitO (some (v10 : Int))) else (contO (IntKind.i64.wrap (v10 + 1) : Int))) else (exitO (some (-1 : Int)))
noncomputable def slices_Index_Ref (v1 : List Ref) (v2 : Int) (v3 : Int) : Option (Int) :=
  iter (fun g : Int => slices_Index_Ref_l0 v1 v2 v3 g) 0
theorem slices_Index_Ref_ok (v1 : List Ref) (v2 : Int) (v3 : Int) (r : Int) (hx : slices_Index_Ref v1 v2 v3 = some r) :
    ACalls Try.prog 103 [.d (.sl (List.map Ref.D v1)), .agg [.d (.int .i64 v2), .d (.int .i64 v3)]] [] (.d (.int .i64 r)) [] := by
  refine ACalls.of_sem (n := 19) 0 [4] (fn := Try.f103) Try.func103 rfl rfl (.one rfl) rfl (by simp) (by intro i; simp only [hget]; (repeat' split) <;> simp <;> omega) ?_
  unfold slices_Index_Ref at hx
  refine Walk.seq (Walk.region' rfl fun K hK => ?_)
  simp only [go_sem, seval]
  refine hK _ ?_
  clear hK K
  refine Walk.seq (Walk.seq (Walk.region' rfl fun K hK => ?_))
  simp only [go_sem, seval]
  refine hK _ ?_
  clear hK K
  refine Walk.block (Walk.loop ?_)
  refine Walk.weaken ⟨[(0, .d (.sl (List.map Ref.D v1))), (3, .box 3 0), (7, .d (.int .i64 (v1.length : Int))), (8, .d (.int .i64 0))], [(3, some (.box [.d (.int .i64 v2), .d (.int .i64 v3)]))]⟩ (by simp <;> omega) (by simp <;> omega) ?_
  refine Walk.iter (σ := Int) (fun g => ⟨[(0, .d (.sl (List.map Ref.D v1))), (3, .box 3 0), (7, .d (.int .i64 (v1.length : Int))), (8, .d (.int .i64 g))], [(3, some (.box [.d (.int .i64 v2), .d (.int .i64 v3)]))]⟩) (fun g : Int => slices_Index_Ref_l0 v1 v2 v3 g) _ (fun v10 y53 hx ih40 hr41 => ?_) 0 hx
  unfold slices_Index_Ref_l0 at hx
  try dsimp only at hx ⊢
  refine Walk.seq (Walk.region' rfl fun K hK => ?_)
  simp only [go_sem, seval]
  refine hK _ ?_
  clear hK K
  refine Walk.seq (Walk.condO rfl hx (fun c43 hx => ?_) (fun c43 hx => ?_))
  · refine Walk.skip (Walk.seq (Walk.block (Walk.seq (Walk.region' rfl fun K hK => ?_))))
    simp only [go_sem, seval, c43]
    refine hK _ ?_
    clear hK K
    refine Walk.seq (Walk.drawn' rfl mixed fun K hK => ?_)
    obtain ⟨v12, r44, a45, b46, c47, hx⟩ := rd_elim hx
    simp only [go_sem, seval, c43, a45, b46, c47]
    repeat refine And.intro (by first | omega | (simp; done) | (simp; omega)) ?_
    refine hK _ _ (by kernel_rfl) (by simp [c43, a45, b46, c47]) ?_
    clear hK K
    refine Walk.condO rfl hx (fun c48 hx => ?_) (fun c48 hx => ?_)
    · refine Walk.seq (Walk.region' rfl fun K hK => ?_)
      simp only [go_sem, seval, c43, a45, b46, c47, c48]
      refine hK _ ?_
      clear hK K
      obtain ⟨z49, e50, hx⟩ := exit_elim hx
      rw [hr41 z49 e50] at hx
      obtain rfl := Option.some.inj hx
      exact Walk.ret ⟨by simp [c43, a45, b46, c47, c48], by simp [c43, a45, b46, c47, c48]⟩
    refine Walk.skip (Walk.inBlock (Walk.region' rfl fun K hK => ?_))
    simp only [go_sem, seval, c43, a45, b46, c47, c48]
    refine hK _ ?_
    clear hK K
    exact Walk.weaken _ (by simp [c43, a45, b46, c47, c48] <;> omega) (by simp [c43, a45, b46, c47, c48] <;> omega) (ih40 _ (cont_elim hx))
  refine Walk.exit rfl ?_
  obtain ⟨z51, e52, hx⟩ := exit_elim hx
  rw [hr41 z51 e52] at hx
  refine Walk.seq (Walk.region' rfl fun K hK => ?_)
  simp only [go_sem, seval, c43]
  refine hK _ ?_
  clear hK K
  obtain rfl := Option.some.inj hx
  exact Walk.ret ⟨by simp [c43], by simp [c43]⟩
noncomputable def slices_Contains_Ref (v1 : List Ref) (v2 : Int) (v3 : Int) : Option (Bool) :=
  (slices_Index_Ref v1 v2 v3).bind fun v6 => some (decide (v6 ≥ 0) : Bool)
theorem slices_Contains_Ref_ok (v1 : List Ref) (v2 : Int) (v3 : Int) (r : Bool) (hx : slices_Contains_Ref v1 v2 v3 = some r) :
    ACalls Try.prog 79 [.d (.sl (List.map Ref.D v1)), .agg [.d (.int .i64 v2), .d (.int .i64 v3)]] [] (.d (.bool r)) [] := by
  refine ACalls.of_sem (n := 9) 0 [4] (fn := Try.f79) Try.func79 rfl rfl (.one rfl) rfl (by simp) (by intro i; simp only [hget]; (repeat' split) <;> simp <;> omega) ?_
  unfold slices_Contains_Ref at hx
  refine Walk.seq (Walk.region' rfl fun K hK => ?_)
  simp only [go_sem, seval]
  refine hK _ ?_
  clear hK K
  refine Walk.seq (Walk.region' rfl fun K hK => ?_)
  obtain ⟨v6, h2, hx⟩ := bind_elim hx
  simp only [go_sem, seval]
  refine VCl.pure rfl (by simp only [go_sem, seval]; try simp) (slices_Index_Ref_ok v1 v2 v3 _ h2) (by simp only [go_sem, seval]; try simp) (by simp only [go_sem, seval]; try simp) (by simp only [go_sem, seval]; try simp) (by simp only [go_sem, seval]; try simp) (by simp only [go_sem, seval]; try simp) (by simp only [go_sem, seval]; try simp) ?_
  simp only [go_sem, seval]
  refine hK _ ?_
  clear hK K
  obtain rfl := Option.some.inj hx
  exact Walk.ret ⟨by simp, by simp⟩
noncomputable def blueprint_Rows_8 (v1 : Int) (v2 : Int) (v3 : Int) (v4 : Int) (v5 : Int) (v6 : List Ref) (v7 : List TItem) : Option (Int) :=
  (rd v7 v4).bind fun v12 => (slices_Contains_Ref v6 v12.ID v12.Version).bind fun v13 => (blueprint_one v13).bind fun v14 => some (v14 : Int)
theorem blueprint_Rows_8_ok (v1 : Int) (v2 : Int) (v3 : Int) (v4 : Int) (v5 : Int) (v6 : List Ref) (v7 : List TItem) (r : Int) (hx : blueprint_Rows_8 v1 v2 v3 v4 v5 v6 v7 = some r) :
    ACalls Try.prog 78 [.agg [.d (.int .i64 v1), .d (.int .i64 v2), .d (.int .i64 v3)], .d (.int .i64 v4), .box 0 0, .box 1 0] [(0, some (.box [.d (.int .i64 v5), .d (.sl (List.map Ref.D v6))])), (1, some (.box [.d (.sl (List.map TItem.D v7))]))] (.d (.int .i64 r)) [(0, some (.box [.d (.int .i64 v5), .d (.sl (List.map Ref.D v6))])), (1, some (.box [.d (.sl (List.map TItem.D v7))]))] := by
  refine ACalls.of_sem (n := 22) 2 [6] (fn := Try.f78) Try.func78 rfl rfl (.one rfl) rfl (by simp) (by intro i; simp only [hget]; (repeat' split) <;> simp <;> omega) ?_
  unfold blueprint_Rows_8 at hx
  refine Walk.seq (Walk.region' rfl fun K hK => ?_)
  simp only [go_sem, seval]
  refine hK _ ?_
  clear hK K
  refine Walk.seq (Walk.drawn' rfl mixed fun K hK => ?_)
  obtain ⟨v12, r7, a8, b9, c10, hx⟩ := rd_elim hx
  obtain ⟨v13, h11, hx⟩ := bind_elim hx
  simp only [go_sem, seval, a8, b9, c10]
  repeat refine And.intro (by first | omega | (simp; done) | (simp; omega)) ?_
  refine VCl.pure rfl (by simp only [go_sem, seval, a8, b9, c10]; try simp) (slices_Contains_Ref_ok v6 v12.ID v12.Version _ h11) (by simp only [go_sem, seval, a8, b9, c10]; try simp) (by simp only [go_sem, seval, a8, b9, c10]; try simp) (by simp only [go_sem, seval, a8, b9, c10]; try simp) (by simp only [go_sem, seval, a8, b9, c10]; try simp) (by simp only [go_sem, seval, a8, b9, c10]; try simp) (by simp only [go_sem, seval, a8, b9, c10]; try simp) ?_
  obtain ⟨v14, h12, hx⟩ := bind_elim hx
  simp only [go_sem, seval, a8, b9, c10]
  refine VCl.pure rfl (by simp only [go_sem, seval, a8, b9, c10]; try simp) (blueprint_one_ok v13 _ h12) (by simp only [go_sem, seval, a8, b9, c10]; try simp) (by simp only [go_sem, seval, a8, b9, c10]; try simp) (by simp only [go_sem, seval, a8, b9, c10]; try simp) (by simp only [go_sem, seval, a8, b9, c10]; try simp) (by simp only [go_sem, seval, a8, b9, c10]; try simp) (by simp only [go_sem, seval, a8, b9, c10]; try simp) ?_
  simp only [go_sem, seval, a8, b9, c10]
  refine hK _ _ (by kernel_rfl) (by simp [a8, b9, c10]) ?_
  clear hK K
  obtain rfl := Option.some.inj hx
  exact Walk.ret ⟨by simp [a8, b9, c10], by simp [a8, b9, c10]⟩
noncomputable def blueprint_table_add__Rows_8_l1 (v1 : List TItem) (v137 : TRange) (v3 : Int) (v4 : List Ref) (v5 : List TItem) (v111 : List Row) (v110 : Int) (v156 : Int) (v157 : List Int) : Option ((Int × List Int) ⊕ ((Int × List Row) ⊕ (List Row))) :=
  bif decide (v156 < (v1.length : Int)) then ((blueprint_Rows_8 v137.Index v137.Least v137.Most v156 v3 v4 v5).bind fun v160 => (rd v157 v156).bind fun v161 => contO ((IntKind.i64.wrap (v156 + 1), (v157.set (v156).toNat v160)) : Int × List Int)) else (exitO (chk ((v111.length + 1) * 40 ≤ 140737488355328) (contO ((IntKind.i64.wrap (v110 + 1), (v111 ++ [(Row.mk v157 v137.Least v137.Most)])) : Int × List Row))))
noncomputable def blueprint_table_add__Rows_8_l0 (v6 : List TRange) (v1 : List TItem) (v3 : Int) (v4 : List Ref) (v5 : List TItem) (v110 : Int) (v111 : List Row) : Option ((Int × List Row) ⊕ (List Row)) :=
  bif decide (v110 < (v6.length : Int)) then ((rd v6 v110).bind fun v137 => chk ((0 : Int) ≤ (v1.length : Int) ∧ (v1.length : Int) = (v1.length : Int) ∧ 8 * (v1.length : Int) ≤ 281474976710656 ∧ (v1.length : Int) ≤ 281474976710656) (iter (fun g : Int × List Int => blueprint_table_add__Rows_8_l1 v1 v137 v3 v4 v5 v111 v110 g.1 g.2) (0, (List.replicate ((v1.length : Int)).toNat (0 : Int))))) else (exitO (some (v111 : List Row)))
noncomputable def blueprint_table_add__Rows_8 (v1 : List TItem) (v2 : List Row) (v3 : Int) (v4 : List Ref) (v5 : List TItem) (v6 : List TRange) : Option (List Row) :=
  iter (fun g : Int × List Row => blueprint_table_add__Rows_8_l0 v6 v1 v3 v4 v5 g.1 g.2) (0, v2)
theorem blueprint_table_add__Rows_8_ok (v1 : List TItem) (v2 : List Row) (v3 : Int) (v4 : List Ref) (v5 : List TItem) (v6 : List TRange) (r : List Row) (hx : blueprint_table_add__Rows_8 v1 v2 v3 v4 v5 v6 = some r) :
    ACalls Try.prog 65 [.box 0 0, .fn 78 [.box 2 0, .box 3 0], .d (.sl (List.map TRange.D v6))] [(0, some (.box [.d (.sl (List.map TItem.D v1)), .arr 1 0 v2.length])), (1, some (.arr 32 3 (List.map Row.D v2))), (2, some (.box [.d (.int .i64 v3), .d (.sl (List.map Ref.D v4))])), (3, some (.box [.d (.sl (List.map TItem.D v5))]))] (.tup []) [(0, some (.box [.d (.sl (List.map TItem.D v1)), .arr 1 0 r.length])), (1, some (.arr 32 3 (List.map Row.D r))), (2, some (.box [.d (.int .i64 v3), .d (.sl (List.map Ref.D v4))])), (3, some (.box [.d (.sl (List.map TItem.D v5))]))] := by
  refine ACalls.of_sem (n := 55) 4 [] (fn := Try.f65) Try.func65 rfl rfl (.zero rfl) rfl (by simp) (by intro i; simp only [hget]; (repeat' split) <;> simp <;> omega) ?_
  unfold blueprint_table_add__Rows_8 at hx
  refine Walk.seq (Walk.region' rfl fun K hK => ?_)
  simp only [go_sem, seval]
  refine hK _ ?_
  clear hK K
  refine Walk.block (Walk.loop ?_)
  refine Walk.weaken ⟨[(0, .box 0 0), (1, .fn 78 [.box 2 0, .box 3 0]), (10, .d (.sl (List.map TRange.D v6))), (11, .d (.int .i64 (v6.length : Int))), (12, .d (.int .i64 0))], [(0, some (.box [.d (.sl (List.map TItem.D v1)), .arr 1 0 v2.length])), (1, some (.arr 32 3 (List.map Row.D v2))), (2, some (.box [.d (.int .i64 v3), .d (.sl (List.map Ref.D v4))])), (3, some (.box [.d (.sl (List.map TItem.D v5))]))]⟩ (by simp <;> omega) (by simp <;> omega) ?_
  refine Walk.iter (σ := Int × List Row) (fun g => ⟨[(0, .box 0 0), (1, .fn 78 [.box 2 0, .box 3 0]), (10, .d (.sl (List.map TRange.D v6))), (11, .d (.int .i64 (v6.length : Int))), (12, .d (.int .i64 g.1))], [(0, some (.box [.d (.sl (List.map TItem.D v1)), .arr 1 0 g.2.length])), (1, some (.arr 32 3 (List.map Row.D g.2))), (2, some (.box [.d (.int .i64 v3), .d (.sl (List.map Ref.D v4))])), (3, some (.box [.d (.sl (List.map TItem.D v5))]))]⟩) (fun g : Int × List Row => blueprint_table_add__Rows_8_l0 v6 v1 v3 v4 v5 g.1 g.2) _ (fun g y562 hx ih465 hr466 => ?_) (0, v2) hx
  obtain ⟨v110, v111⟩ := g
  unfold blueprint_table_add__Rows_8_l0 at hx
  try dsimp only at hx ⊢
  refine Walk.seq (Walk.region' rfl fun K hK => ?_)
  simp only [go_sem, seval]
  refine hK _ ?_
  clear hK K
  refine Walk.seq (Walk.condO rfl hx (fun c468 hx => ?_) (fun c468 hx => ?_))
  · refine Walk.skip (Walk.seq (Walk.block (Walk.seq (Walk.region' rfl fun K hK => ?_))))
    obtain ⟨v137, r469, a470, b471, c472, hx⟩ := rd_elim hx
    simp only [go_sem, seval, c468, a470, b471, c472]
    repeat refine And.intro (by first | omega | (simp; done) | (simp; omega)) ?_
    refine hK _ ?_
    clear hK K
    refine Walk.seq (Walk.drawn' rfl mixed fun K hK => ?_)
    obtain ⟨k473, hx⟩ := chk_elim hx
    simp only [go_sem, seval, c468, a470, b471, c472, k473]
    repeat refine And.intro (by first | omega | (simp; done) | (simp; omega)) ?_
    refine hK _ _ (by kernel_rfl) (by simp [c468, a470, b471, c472, k473]) ?_
    clear hK K
    refine Walk.weaken ⟨[(0, .box 0 0), (1, .fn 78 [.box 2 0, .box 3 0]), (7, .box 11 0), (8, .box 12 0), (10, .d (.sl (List.map TRange.D v6))), (11, .d (.int .i64 (v6.length : Int))), (12, .d (.int .i64 v110))], [(0, some (.box [.d (.sl (List.map TItem.D v1)), .arr 1 0 v111.length])), (1, some (.arr 32 3 (List.map Row.D v111))), (2, some (.box [.d (.int .i64 v3), .d (.sl (List.map Ref.D v4))])), (3, some (.box [.d (.sl (List.map TItem.D v5))])), (11, some (.box [.d (.int .i64 v137.Index), .d (.int .i64 v137.Least), .d (.int .i64 v137.Most)])), (12, some (.box [.arr 25 0 (((List.replicate ((v1.length : Int)).toNat (0 : Int))).length), .d (.int .i64 v137.Least), .d (.int .i64 v137.Most)])), (25, some (.arr 3 1 (List.map iD ((List.replicate ((v1.length : Int)).toNat (0 : Int))))))]⟩ (by simp [c468, a470, b471, c472, k473] <;> omega) (by simp [c468, a470, b471, c472, k473] <;> omega) ?_
    refine Walk.seq (Walk.seq (Walk.region' rfl fun K hK => ?_))
    simp only [go_sem, seval, c468, a470, b471, c472, k473]
    refine hK _ ?_
    clear hK K
    refine Walk.block (Walk.loop ?_)
    refine Walk.weaken ⟨[(0, .box 0 0), (1, .fn 78 [.box 2 0, .box 3 0]), (7, .box 11 0), (8, .box 12 0), (10, .d (.sl (List.map TRange.D v6))), (11, .d (.int .i64 (v6.length : Int))), (12, .d (.int .i64 v110)), (31, .d (.int .i64 (v1.length : Int))), (32, .d (.int .i64 0))], [(0, some (.box [.d (.sl (List.map TItem.D v1)), .arr 1 0 v111.length])), (1, some (.arr 32 3 (List.map Row.D v111))), (2, some (.box [.d (.int .i64 v3), .d (.sl (List.map Ref.D v4))])), (3, some (.box [.d (.sl (List.map TItem.D v5))])), (11, some (.box [.d (.int .i64 v137.Index), .d (.int .i64 v137.Least), .d (.int .i64 v137.Most)])), (12, some (.box [.arr 25 0 (((List.replicate ((v1.length : Int)).toNat (0 : Int))).length), .d (.int .i64 v137.Least), .d (.int .i64 v137.Most)])), (25, some (.arr 3 1 (List.map iD ((List.replicate ((v1.length : Int)).toNat (0 : Int))))))]⟩ (by simp [c468, a470, b471, c472, k473] <;> omega) (by simp [c468, a470, b471, c472, k473] <;> omega) ?_
    refine Walk.iter (σ := Int × List Int) (fun g => ⟨[(0, .box 0 0), (1, .fn 78 [.box 2 0, .box 3 0]), (7, .box 11 0), (8, .box 12 0), (10, .d (.sl (List.map TRange.D v6))), (11, .d (.int .i64 (v6.length : Int))), (12, .d (.int .i64 v110)), (31, .d (.int .i64 (v1.length : Int))), (32, .d (.int .i64 g.1))], [(0, some (.box [.d (.sl (List.map TItem.D v1)), .arr 1 0 v111.length])), (1, some (.arr 32 3 (List.map Row.D v111))), (2, some (.box [.d (.int .i64 v3), .d (.sl (List.map Ref.D v4))])), (3, some (.box [.d (.sl (List.map TItem.D v5))])), (11, some (.box [.d (.int .i64 v137.Index), .d (.int .i64 v137.Least), .d (.int .i64 v137.Most)])), (12, some (.box [.arr 25 0 g.2.length, .d (.int .i64 v137.Least), .d (.int .i64 v137.Most)])), (25, some (.arr 3 1 (List.map iD g.2)))]⟩) (fun g : Int × List Int => blueprint_table_add__Rows_8_l1 v1 v137 v3 v4 v5 v111 v110 g.1 g.2) _ (fun g y559 hx ih546 hr547 => ?_) (0, (List.replicate ((v1.length : Int)).toNat (0 : Int))) hx
    obtain ⟨v156, v157⟩ := g
    unfold blueprint_table_add__Rows_8_l1 at hx
    try dsimp only at hx ⊢
    refine Walk.seq (Walk.region' rfl fun K hK => ?_)
    simp only [go_sem, seval, c468, a470, b471, c472, k473]
    refine hK _ ?_
    clear hK K
    refine Walk.seq (Walk.condO rfl hx (fun c549 hx => ?_) (fun c549 hx => ?_))
    · refine Walk.skip (Walk.seq (Walk.block (Walk.seq (Walk.region' rfl fun K hK => ?_))))
      simp only [go_sem, seval, c468, a470, b471, c472, k473, c549]
      refine hK _ ?_
      clear hK K
      refine Walk.drawn' rfl mixed fun K hK => ?_
      obtain ⟨v160, h550, hx⟩ := bind_elim hx
      have w551 := (((blueprint_Rows_8_ok v137.Index v137.Least v137.Most v156 v3 v4 v5 _ h550).swap 0 2).swap 1 3)
      simp only [renE, renL, AV.ren, AV.rens, AObj.ren, swp, Option.map_some, reduceIte, Nat.reduceEqDiff] at w551
      simp only [go_sem, seval, c468, a470, b471, c472, k473, c549]
      refine VCl.sub [(2, some (.box [.d (.int .i64 v3), .d (.sl (List.map Ref.D v4))])), (3, some (.box [.d (.sl (List.map TItem.D v5))]))] [] rfl (by simp only [go_sem, seval, AV.viewXs, AV.viewX, avD, c468, a470, b471, c472, k473, c549]; try simp) (w551) (by simp [c468, a470, b471, c472, k473, c549]) (by simp [c468, a470, b471, c472, k473, c549]) (by simp [c468, a470, b471, c472, k473, c549]) (by simp [c468, a470, b471, c472, k473, c549]) (by simp [c468, a470, b471, c472, k473, c549]) (by simp [c468, a470, b471, c472, k473, c549]) (by simp [c468, a470, b471, c472, k473, c549]) (by simp [c468, a470, b471, c472, k473, c549]) (by simp [c468, a470, b471, c472, k473, c549]) (by simp [c468, a470, b471, c472, k473, c549]) ?_
      obtain ⟨v161, r552, a553, b554, c555, hx⟩ := rd_elim hx
      simp only [go_sem, seval, c468, a470, b471, c472, k473, c549, a553, b554, c555]
      repeat refine And.intro (by first | omega | (simp; done) | (simp; omega)) ?_
      refine hK _ _ (by kernel_rfl) (by simp [c468, a470, b471, c472, k473, c549, a553, b554, c555]) ?_
      clear hK K
      refine Walk.weaken ⟨[(0, .box 0 0), (1, .fn 78 [.box 2 0, .box 3 0]), (7, .box 11 0), (8, .box 12 0), (10, .d (.sl (List.map TRange.D v6))), (11, .d (.int .i64 (v6.length : Int))), (12, .d (.int .i64 v110)), (31, .d (.int .i64 (v1.length : Int))), (32, .d (.int .i64 v156))], [(0, some (.box [.d (.sl (List.map TItem.D v1)), .arr 1 0 v111.length])), (1, some (.arr 32 3 (List.map Row.D v111))), (2, some (.box [.d (.int .i64 v3), .d (.sl (List.map Ref.D v4))])), (3, some (.box [.d (.sl (List.map TItem.D v5))])), (11, some (.box [.d (.int .i64 v137.Index), .d (.int .i64 v137.Least), .d (.int .i64 v137.Most)])), (12, some (.box [.arr 25 0 (((v157.set (v156).toNat v160)).length), .d (.int .i64 v137.Least), .d (.int .i64 v137.Most)])), (25, some (.arr 3 1 (List.map iD ((v157.set (v156).toNat v160)))))]⟩ (by simp [c468, a470, b471, c472, k473, c549, a553, b554, c555] <;> omega) (by simp [c468, a470, b471, c472, k473, c549, a553, b554, c555] <;> omega) ?_
      refine Walk.inBlock (Walk.region' rfl fun K hK => ?_)
      simp only [go_sem, seval, c468, a470, b471, c472, k473, c549, a553, b554, c555]
      refine hK _ ?_
      clear hK K
      exact Walk.weaken _ (by simp [c468, a470, b471, c472, k473, c549, a553, b554, c555] <;> omega) (by simp [c468, a470, b471, c472, k473, c549, a553, b554, c555] <;> omega) (ih546 _ (cont_elim hx))
    refine Walk.exit rfl ?_
    obtain ⟨z556, e557, hx⟩ := exit_elim hx
    rw [hr547 z556 e557] at hx
    refine Walk.drawn' rfl mixed fun K hK => ?_
    obtain ⟨k558, hx⟩ := chk_elim hx
    simp only [go_sem, seval, c468, a470, b471, c472, k473, c549, k558]
    repeat refine And.intro (by first | omega | (simp; done) | (simp; omega)) ?_
    refine hK _ _ (by kernel_rfl) (by simp [c468, a470, b471, c472, k473, c549, k558]) ?_
    clear hK K
    refine Walk.weaken ⟨[(0, .box 0 0), (1, .fn 78 [.box 2 0, .box 3 0]), (10, .d (.sl (List.map TRange.D v6))), (11, .d (.int .i64 (v6.length : Int))), (12, .d (.int .i64 v110))], [(0, some (.box [.d (.sl (List.map TItem.D v1)), .arr 1 0 (((v111 ++ [(Row.mk v157 v137.Least v137.Most)])).length)])), (1, some (.arr 32 3 (List.map Row.D ((v111 ++ [(Row.mk v157 v137.Least v137.Most)]))))), (2, some (.box [.d (.int .i64 v3), .d (.sl (List.map Ref.D v4))])), (3, some (.box [.d (.sl (List.map TItem.D v5))]))]⟩ (by simp [c468, a470, b471, c472, k473, c549, k558] <;> omega) (by simp [c468, a470, b471, c472, k473, c549, k558] <;> omega) ?_
    refine Walk.inBlock (Walk.region' rfl fun K hK => ?_)
    simp only [go_sem, seval, c468, a470, b471, c472, k473, c549, k558]
    refine hK _ ?_
    clear hK K
    exact Walk.weaken _ (by simp [c468, a470, b471, c472, k473, c549, k558] <;> omega) (by simp [c468, a470, b471, c472, k473, c549, k558] <;> omega) (ih465 _ (cont_elim hx))
  refine Walk.exit rfl ?_
  obtain ⟨z560, e561, hx⟩ := exit_elim hx
  rw [hr466 z560 e561] at hx
  obtain rfl := Option.some.inj hx
  exact Walk.done ⟨by simp [c468], by simp [c468]⟩
end Go.AX

