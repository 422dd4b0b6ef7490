import Derived.Test.YtmggphnhfegffaaE6
set_option linter.unusedVariables false
set_option linter.unusedSimpArgs false
set_option maxRecDepth 20000
set_option maxHeartbeats 4000000
namespace Go.AX
open Go.Proofs
attribute [local simp] take_map_len subE subH eget hget upE upV upH upO_refl upO_box upVs freshE freshH freshO AV.ids AV.idsL ids_box ids_arr frE frV_refl frV_arr frH frO_refl frO_box frVs newOk evalA AV.viewXs AV.viewX AV.viewXP AV.viewXPs AV.viewPs AV.viewP AV.flat AV.flatL D.flat arrsOnly flatObjs newNames subOf closedIn allSome dstOk newOrOld avD avDp zv_i64 zv_u8 zv_bool zv_nils zv_nilp zv_str retAV aLoad cut TI.isAgg nlE nlH nlO_refl nlO_box nlVs nlV_refl nlV_nil iD uD bD tD lD List.map_set ti2 ti3 ti4 ti5 ti6 ti7 ti8 ti9 ti10 ti11 ti12 ti13 ti14 ti15 ti16 ti17 ti18 ti19 ti21 ti22 ti23 ti25 ti26 ti27 ti31 ti32 ti41 ti51 ti52 ti53 ti54 ti56 ti58 ti60 ti61 ti62 ti67 ti68 ti71 ti72 ti79 ti80 ti81 ti82 ti83 ti84 ti85 ti89 ti93 ti94 ti95 ti110 ti124 ti125 ti126 ti127 ti128 ti129 ti130 ti131 ti133 ti134 ti135 ti136 ti137 Row.D TRange.D Ref.D Form.D Part.D TItem.D
attribute [local go_sem] V1_none V1_some V_nil V_move V_assign V_pick V_bin V_un V_extract V_makeFunc V_convert V_nilCheck V_fieldAddr V_field V_load V_store V_indexAddr V_index V_slice V_slice0 V_alloc V_box V_build V_buildSlice V_makeSlice V_len V_min V_max V_append V_call V_guard VGs_some VG_tt VG_ff VG_tf VG_ft VG_u gslot ok fail po so aNew dstOk freshU addLog_none' addLog_some' St.step putL evalA eget hget argE freshE freshO freshH AV.ids AV.idsL AV.ok1 AV.cells ids_box ids_arr liveBox liveArr isArr aPick aBin aUn aExtract aMakeFunc aConvert aNilCheck aFieldAddr aField cut aLen aIndexAddr aMin aMax aIndex bnd isInt aSlice aSlice0 aLoad aAlloc aBox aStore splice aMake updIds newIds zv_i64 zv_u8 zv_bool zv_nils zv_nilp cond_bool cond_int TI.isAgg TK.isSl TK.el okL avDps avDp avD List.map_cons List.map_nil List.append_nil List.nil_append List.cons_append List.length_cons List.length_nil List.take_succ_cons List.take_zero List.drop_succ_cons List.drop_zero List.take_nil List.drop_nil List.headD_cons List.getD_cons_zero List.getD_cons_succ List.mem_cons List.not_mem_nil List.getElem?_cons_zero List.getElem?_cons_succ List.toList_toArray Option.getD_some Option.getD_none Option.bind_some Option.bind_none Option.map_some Option.map_none Option.getD Option.toList Nat.zero_add Nat.add_zero Nat.zero_le Nat.le_refl if_true if_false ite_self true_and and_true false_and and_false true_or or_true false_or or_false not_true_eq_false not_false_eq_true ne_eq cond_true cond_false Bool.true_eq_false Bool.false_eq_true forall_const decide_true decide_false implies_true true_implies and_self or_self Nat.succ_ne_zero Int.toNat_natCast Int.natCast_nonneg List.length_map decide_eq_true_eq AV.views AV.view AV.viewPs AV.viewP arrsOnly newNames List.length_append List.append_assoc Bool.not_true Bool.not_false AV.ok2 aBuild fillR fillP aBuildSlice dense elP aAppend esOf esOfP List.forall_mem_cons forall_eq_or_imp forall_eq zD zDp map_take' map_drop' iD uD bD tD lD iD_len uD_len bD_len tD_len lD_len LB Int.cast_ofNat_Int Int.natCast_zero Int.natCast_one head_len all_len List.head?_cons List.head?_nil Bool.not_not eq_self List.take_length zv_str aConv byteOf isByte map_bcell bytes_all str_map cellsEq cellsP AV.kd Bool.and_true Bool.true_and Bool.and_false Bool.false_and ti2 ti3 ti4 ti5 ti6 ti7 ti8 ti9 ti10 ti11 ti12 ti13 ti14 ti15 ti16 ti17 ti18 ti19 ti21 ti22 ti23 ti25 ti26 ti27 ti31 ti32 ti41 ti51 ti52 ti53 ti54 ti56 ti58 ti60 ti61 ti62 ti67 ti68 ti71 ti72 ti79 ti80 ti81 ti82 ti83 ti84 ti85 ti89 ti93 ti94 ti95 ti110 ti124 ti125 ti126 ti127 ti128 ti129 ti130 ti131 ti133 ti134 ti135 ti136 ti137 Row.D TRange.D Ref.D Form.D Part.D TItem.D Row.D_len TRange.D_len Ref.D_len Form.D_len Part.D_len TItem.D_len zs_ zs_48_49_50_51_52_53_54_55_56_57_48_49_50_51_52_53_54_55_56_57_48_49_50_51_52_53_54_55_56_57_48_49_50_51_52_53_54_55_56_57_120 zs_113 zs_116_97_98_9 eqf85_00
noncomputable def mk_Tape_Items_j1 (v1 : List Int) (v27 : List TItem) (v28 : Int) (v38 : Int) (v39 : Int) : Option ((List TItem × Int × Int) ⊕ (Int × List TItem)) :=
  (mk_Tape_Range v1 v39 1 2).bind fun v40 => (mk_Tape_Item v1 v40.2 v38 v40.1 0).bind fun v41 => chk ((v27.length + 1) * 80 ≤ 140737488355328) (contO (((v27 ++ [(TItem.mk v41.2.1 v41.2.2.1 v41.2.2.2.1 v41.2.2.2.2.2 v41.2.2.2.2.1)]), IntKind.i64.wrap (v28 - 1), v41.1) : List TItem × Int × Int))
noncomputable def mk_Tape_Items_l0 (v1 : List Int) (v27 : List TItem) (v28 : Int) (v29 : Int) : Option ((List TItem × Int × Int) ⊕ (Int × List TItem)) :=
  bif decide (v28 > 0) then (bif decide ((v27.length : Int) > 0) then ((mk_Tape_One v1 v29 6).bind fun v42 => bif v42.1 then ((mk_Tape_Next v1 v42.2 (v27.length : Int)).bind fun v43 => mk_Tape_Items_j1 v1 v27 v28 v43.1 v43.2) else (mk_Tape_Items_j1 v1 v27 v28 (v27.length : Int) v42.2)) else (mk_Tape_Items_j1 v1 v27 v28 (v27.length : Int) v29)) else (exitO (some ((v29, v27) : Int × List TItem)))
noncomputable def mk_Tape_Items (v1 : List Int) (v2 : Int) (v3 : Int) : Option (Int × List TItem) :=
  (mk_Tape_Range v1 v2 0 v3).bind fun v24 => iter (fun g : List TItem × Int × Int => mk_Tape_Items_l0 v1 g.1 g.2.1 g.2.2) ([], v24.1, v24.2)
theorem mk_Tape_Items_ok (v1 : List Int) (v2 : Int) (v3 : Int) (r : Int × List TItem) (hx : mk_Tape_Items v1 v2 v3 = some r) :
    ACalls Try.prog 38 [.box 0 0, .d (.int .i64 v3)] [(0, some (.box [.d (.sl (List.map iD v1)), .d (.int .i64 v2)]))] (.arr 2000 0 r.2.length) [(0, some (.box [.d (.sl (List.map iD v1)), .d (.int .i64 r.1)])), (2000, some (.arr 62 5 (List.map TItem.D r.2)))] := by
  refine ACalls.of_sem (n := 35) 1 [4] (fn := Try.f38) Try.func38 rfl rfl (.one rfl) rfl (by simp) (by intro i; simp only [hget]; (repeat' split) <;> simp <;> omega) ?_
  unfold mk_Tape_Items at hx
  refine Walk.seq (Walk.region' rfl fun K hK => ?_)
  simp only [go_sem, seval]
  refine hK _ ?_
  clear hK K
  refine Walk.seq (Walk.region' rfl fun K hK => ?_)
  simp only [go_sem, seval]
  refine hK _ ?_
  clear hK K
  refine Walk.seq (Walk.seq (Walk.region' rfl fun K hK => ?_))
  obtain ⟨v24, h34, hx⟩ := bind_elim hx
  simp only [go_sem, seval]
  refine VCl.sub [(0, some (.box [.d (.sl (List.map iD v1)), .d (.int .i64 v2)]))] [] rfl (by simp only [go_sem, seval, AV.viewXs, AV.viewX, avD]; try simp) (mk_Tape_Range_ok v1 v2 0 v3 _ h34) (by simp) (by simp) (by simp) (by simp) (by simp) (by simp) (by simp) (by simp) (by simp) (by simp) ?_
  simp only [go_sem, seval]
  refine hK _ ?_
  clear hK K
  refine Walk.weaken ⟨[(0, .box 0 0), (5, .nils), (6, .d (.int .i64 v24.1))], [(0, some (.box [.d (.sl (List.map iD v1)), .d (.int .i64 v24.2)]))]⟩ (by simp <;> omega) (by simp <;> omega) ?_
  refine Walk.block (Walk.loop ?_)
  refine Walk.weaken ⟨[(0, .box 0 0), (5, .nils), (6, .d (.int .i64 v24.1))], [(0, some (.box [.d (.sl (List.map iD v1)), .d (.int .i64 v24.2)]))]⟩ (by simp <;> omega) (by simp <;> omega) ?_
  refine Walk.up 1010 62 5 [(0, .box 0 0), (5, .arr 1010 0 0), (6, .d (.int .i64 v24.1))] [(0, some (.box [.d (.sl (List.map iD v1)), .d (.int .i64 v24.2)]))] (by simp) (by simp) (by omega) (by simp) (by simp) (by simp) ?_
  refine Walk.weaken ⟨[(0, .box 0 0), (5, .arr 1010 0 0), (6, .d (.int .i64 v24.1))], [(0, some (.box [.d (.sl (List.map iD v1)), .d (.int .i64 v24.2)])), (1010, some (.arr 62 5 (List.map TItem.D [])))]⟩ (by simp <;> omega) (by simp <;> omega) ?_
  refine Walk.iter (σ := List TItem × Int × Int) (fun g => ⟨[(0, .box 0 0), (5, .arr 1010 0 g.1.length), (6, .d (.int .i64 g.2.1))], [(0, some (.box [.d (.sl (List.map iD v1)), .d (.int .i64 g.2.2)])), (1010, some (.arr 62 5 (List.map TItem.D g.1)))]⟩) (fun g : List TItem × Int × Int => mk_Tape_Items_l0 v1 g.1 g.2.1 g.2.2) _ (fun g y72 hx ih52 hr53 => ?_) ([], v24.1, v24.2) hx
  obtain ⟨v27, v28, v29⟩ := g
  unfold mk_Tape_Items_l0 at hx
  try dsimp only at hx ⊢
  refine Walk.seq (Walk.seq (Walk.region' rfl fun K hK => ?_))
  simp only [go_sem, seval]
  refine hK _ ?_
  clear hK K
  refine Walk.condO rfl hx (fun c56 hx => ?_) (fun c56 hx => ?_)
  · refine Walk.skip (Walk.seq (Walk.block (Walk.seq (Walk.region' rfl fun K hK => ?_))))
    simp only [go_sem, seval, c56]
    refine hK _ ?_
    clear hK K
    refine Walk.seq (Walk.join (G := Int × Int) (fun g => ⟨[(0, .box 0 0), (5, .arr 1010 0 v27.length), (6, .d (.int .i64 v28)), (7, .d (.int .i64 g.1))], [(0, some (.box [.d (.sl (List.map iD v1)), .d (.int .i64 g.2)])), (1010, some (.arr 62 5 (List.map TItem.D v27)))]⟩) (fun g => mk_Tape_Items_j1 v1 v27 v28 g.1 g.2) hx (fun g hx => ?_) (fun fin61 => ?_))
    · obtain ⟨v38, v39⟩ := g
      unfold mk_Tape_Items_j1 at hx
      try dsimp only at hx ⊢
      refine Walk.region' rfl fun K hK => ?_
      obtain ⟨v40, h62, hx⟩ := bind_elim hx
      simp only [go_sem, seval, c56]
      refine VCl.sub [(0, some (.box [.d (.sl (List.map iD v1)), .d (.int .i64 v39)]))] [] rfl (by simp only [go_sem, seval, AV.viewXs, AV.viewX, avD, c56]; try simp) (mk_Tape_Range_ok v1 v39 1 2 _ h62) (by simp [c56]) (by simp [c56]) (by simp [c56]) (by simp [c56]) (by simp [c56]) (by simp [c56]) (by simp [c56]) (by simp [c56]) (by simp [c56]) (by simp [c56]) ?_
      obtain ⟨v41, h63, hx⟩ := bind_elim hx
      have w64 := (((mk_Tape_Item_ok v1 v40.2 v38 v40.1 0 _ h63).swap 2001 1013).swap 2002 1014)
      simp only [renE, renL, AV.ren, AV.rens, AObj.ren, swp, Option.map_some, reduceIte, Nat.reduceEqDiff] at w64
      simp only [go_sem, seval, c56]
      refine VCl.sub [(0, some (.box [.d (.sl (List.map iD v1)), .d (.int .i64 v40.2)]))] [] rfl (by simp only [go_sem, seval, AV.viewXs, AV.viewX, avD, c56]; try simp) (w64) (by simp [c56]) (by simp [c56]) (by simp [c56]) (by simp [c56]) (by simp [c56]) (by simp [c56]) (by simp [c56]) (by simp [c56]) (by simp [c56]) (by simp [c56]) ?_
      obtain ⟨k65, hx⟩ := chk_elim hx
      simp only [go_sem, seval, c56, k65]
      repeat refine And.intro (by first | omega | (simp; done) | (simp; omega)) ?_
      refine hK _ ?_
      clear hK K
      refine Walk.weaken ⟨[(0, .box 0 0), (5, .arr 1010 0 (((v27 ++ [(TItem.mk v41.2.1 v41.2.2.1 v41.2.2.2.1 v41.2.2.2.2.2 v41.2.2.2.2.1)])).length)), (6, .d (.int .i64 v28))], [(0, some (.box [.d (.sl (List.map iD v1)), .d (.int .i64 v41.1)])), (1010, some (.arr 62 5 (List.map TItem.D ((v27 ++ [(TItem.mk v41.2.1 v41.2.2.1 v41.2.2.2.1 v41.2.2.2.2.2 v41.2.2.2.2.1)])))))]⟩ (by simp [c56, k65] <;> omega) (by simp [c56, k65] <;> omega) ?_
      refine Walk.inBlock (Walk.region' rfl fun K hK => ?_)
      simp only [go_sem, seval, c56, k65]
      refine hK _ ?_
      clear hK K
      exact Walk.weaken _ (by simp [c56, k65] <;> omega) (by simp [c56, k65] <;> omega) (ih52 _ (cont_elim hx))
    refine Walk.seq (Walk.region' rfl fun K hK => ?_)
    simp only [go_sem, seval, c56]
    refine VGdO hx (fun g66 hx => ?_) (fun g66 hx => ?_)
    · obtain ⟨v42, h67, hx⟩ := bind_elim hx
      simp only [go_sem, seval, c56, g66]
      refine VCl.sub [(0, some (.box [.d (.sl (List.map iD v1)), .d (.int .i64 v29)]))] [] rfl (by simp only [go_sem, seval, AV.viewXs, AV.viewX, avD, c56, g66]; try simp) (mk_Tape_One_ok v1 v29 6 _ h67) (by simp [c56, g66]) (by simp [c56, g66]) (by simp [c56, g66]) (by simp [c56, g66]) (by simp [c56, g66]) (by simp [c56, g66]) (by simp [c56, g66]) (by simp [c56, g66]) (by simp [c56, g66]) (by simp [c56, g66]) ?_
      simp only [go_sem, seval, c56, g66]
      refine hK _ ?_
      clear hK K
      refine Walk.weaken ⟨[(0, .box 0 0), (5, .arr 1010 0 v27.length), (6, .d (.int .i64 v28)), (7, .d (.int .i64 (v27.length : Int))), (22, .d (.bool v42.1))], [(0, some (.box [.d (.sl (List.map iD v1)), .d (.int .i64 v42.2)])), (1010, some (.arr 62 5 (List.map TItem.D v27)))]⟩ (by simp [c56, g66] <;> omega) (by simp [c56, g66] <;> omega) ?_
      refine Walk.condO rfl hx (fun c68 hx => ?_) (fun c68 hx => ?_)
      · refine Walk.region' rfl fun K hK => ?_
        obtain ⟨v43, h69, hx⟩ := bind_elim hx
        simp only [go_sem, seval, c56, g66, c68]
        refine VCl.sub [(0, some (.box [.d (.sl (List.map iD v1)), .d (.int .i64 v42.2)]))] [] rfl (by simp only [go_sem, seval, AV.viewXs, AV.viewX, avD, c56, g66, c68]; try simp) (mk_Tape_Next_ok v1 v42.2 (v27.length : Int) _ h69) (by simp [c56, g66, c68]) (by simp [c56, g66, c68]) (by simp [c56, g66, c68]) (by simp [c56, g66, c68]) (by simp [c56, g66, c68]) (by simp [c56, g66, c68]) (by simp [c56, g66, c68]) (by simp [c56, g66, c68]) (by simp [c56, g66, c68]) (by simp [c56, g66, c68]) ?_
        simp only [go_sem, seval, c56, g66, c68]
        refine hK _ ?_
        clear hK K
        refine Walk.weaken ⟨[(0, .box 0 0), (5, .arr 1010 0 v27.length), (6, .d (.int .i64 v28)), (7, .d (.int .i64 v43.1))], [(0, some (.box [.d (.sl (List.map iD v1)), .d (.int .i64 v43.2)])), (1010, some (.arr 62 5 (List.map TItem.D v27)))]⟩ (by simp [c56, g66, c68] <;> omega) (by simp [c56, g66, c68] <;> omega) ?_
        exact Walk.weaken _ (by simp [c56, g66, c68] <;> omega) (by simp [c56, g66, c68] <;> omega) (fin61 (v43.1, v43.2) hx)
      refine Walk.skip ?_
      exact Walk.weaken _ (by simp [c56, g66, c68] <;> omega) (by simp [c56, g66, c68] <;> omega) (fin61 ((v27.length : Int), v42.2) hx)
    simp only [go_sem, seval, c56, g66]
    refine hK _ ?_
    clear hK K
    refine Walk.condF rfl (Walk.skip ?_)
    exact Walk.weaken _ (by simp [c56, g66] <;> omega) (by simp [c56, g66] <;> omega) (fin61 ((v27.length : Int), v29) hx)
  refine Walk.exit rfl ?_
  obtain ⟨z70, e71, hx⟩ := exit_elim hx
  rw [hr53 z70 e71] at hx
  refine Walk.seq (Walk.region' rfl fun K hK => ?_)
  simp only [go_sem, seval, c56]
  refine hK _ ?_
  clear hK K
  refine Walk.weaken ⟨[(4, .arr 1010 0 v27.length)], [(0, some (.box [.d (.sl (List.map iD v1)), .d (.int .i64 v29)])), (1010, some (.arr 62 5 (List.map TItem.D v27)))]⟩ (by simp [c56] <;> omega) (by simp [c56] <;> omega) ?_
  refine Walk.rename 1010 2000 (by omega) (by omega) (by simp) (by simp) ?_
  simp only [renE, renL, AV.ren, AV.rens, AObj.ren, swp, Option.map_some, reduceIte, Nat.reduceEqDiff]
  obtain rfl := Option.some.inj hx
  exact Walk.ret ⟨by simp [c56], by simp [c56]⟩
noncomputable def item_in (v1 : Int) (v2 : Int) (v3 : Int) : Option (Bool) :=
  bif decide (v1 ≥ v2) then (some (decide (v1 ≤ v3) : Bool)) else (some (false : Bool))
theorem item_in_ok (v1 : Int) (v2 : Int) (v3 : Int) (r : Bool) (hx : item_in v1 v2 v3 = some r) :
    ACalls Try.prog 94 [.d (.int .i64 v1), .d (.int .i64 v2), .d (.int .i64 v3)] [] (.d (.bool r)) [] := by
  refine ACalls.of_sem (n := 15) 0 [6] (fn := Try.f94) Try.func94 rfl rfl (.one rfl) rfl (by simp) (by intro i; simp only [hget]; (repeat' split) <;> simp <;> omega) ?_
  unfold item_in at hx
  refine Walk.seq (Walk.region' rfl fun K hK => ?_)
  simp only [go_sem, seval]
  refine hK _ ?_
  clear hK K
  refine Walk.seq (Walk.region' rfl fun K hK => ?_)
  simp only [go_sem, seval]
  refine VGdO hx (fun g2 hx => ?_) (fun g2 hx => ?_)
  · simp only [go_sem, seval, g2]
    refine hK _ ?_
    clear hK K
    obtain rfl := Option.some.inj hx
    exact Walk.ret ⟨by simp [g2], by simp [g2]⟩
  simp only [go_sem, seval, g2]
  refine hK _ ?_
  clear hK K
  obtain rfl := Option.some.inj hx
  exact Walk.ret ⟨by simp [g2], by simp [g2]⟩
noncomputable def item_Check_1 (v1 : Int) : Option (Bool) :=
  bif decide (v1 < 32) then (some (true : Bool)) else (some (decide (v1 > 126) : Bool))
theorem item_Check_1_ok (v1 : Int) (r : Bool) (hx : item_Check_1 v1 = some r) :
    ACalls Try.prog 96 [.d (.int .u8 v1)] [] (.d (.bool r)) [] := by
  refine ACalls.of_sem (n := 9) 0 [2] (fn := Try.f96) Try.func96 rfl rfl (.one rfl) rfl (by simp) (by intro i; simp only [hget]; (repeat' split) <;> simp <;> omega) ?_
  unfold item_Check_1 at hx
  refine Walk.seq (Walk.region' rfl fun K hK => ?_)
  simp only [go_sem, seval]
  refine hK _ ?_
  clear hK K
  refine Walk.seq (Walk.region' rfl fun K hK => ?_)
  simp only [go_sem, seval]
  refine VGdO hx (fun g2 hx => ?_) (fun g2 hx => ?_)
  · simp only [go_sem, seval, g2]
    refine hK _ ?_
    clear hK K
    obtain rfl := Option.some.inj hx
    exact Walk.ret ⟨by simp [g2], by simp [g2]⟩
  simp only [go_sem, seval, g2]
  refine hK _ ?_
  clear hK K
  obtain rfl := Option.some.inj hx
  exact Walk.ret ⟨by simp [g2], by simp [g2]⟩
noncomputable def slices_IndexFunc_byte__Check_1_l0 (v1 : List Int) (v12 : Int) : Option ((Int) ⊕ (Int)) :=
  bif decide (v12 < (v1.length : Int)) then ((rd v1 v12).bind fun v15 => (item_Check_1 v15).bind fun v16 => bif v16 then (exitO (some (v12 : Int))) else (contO (IntKind.i64.wrap (v12 + 1) : Int))) else (exitO (some (-1 : Int)))
noncomputable def slices_IndexFunc_byte__Check_1 (v1 : List Int) : Option (Int) :=
  iter (fun g : Int => slices_IndexFunc_byte__Check_1_l0 v1 g) 0
theorem slices_IndexFunc_byte__Check_1_ok (v1 : List Int) (r : Int) (hx : slices_IndexFunc_byte__Check_1 v1 = some r) :
    ACalls Try.prog 108 [.d (.sl (List.map uD v1)), .fn 96 []] [] (.d (.int .i64 r)) [] := by
  refine ACalls.of_sem (n := 19) 0 [4] (fn := Try.f108) Try.func108 rfl rfl (.one rfl) rfl (by simp) (by intro i; simp only [hget]; (repeat' split) <;> simp <;> omega) ?_
  unfold slices_IndexFunc_byte__Check_1 at hx
  refine Walk.seq (Walk.region' rfl fun K hK => ?_)
  simp only [go_sem, seval]
  refine hK _ ?_
  clear hK K
  refine Walk.seq (Walk.seq (Walk.region' rfl fun K hK => ?_))
  simp only [go_sem, seval]
  refine hK _ ?_
  clear hK K
  refine Walk.block (Walk.loop ?_)
  refine Walk.weaken ⟨[(0, .d (.sl (List.map uD v1))), (1, .fn 96 []), (7, .d (.int .i64 (v1.length : Int))), (8, .d (.int .i64 0))], []⟩ (by simp <;> omega) (by simp <;> omega) ?_
  refine Walk.iter (σ := Int) (fun g => ⟨[(0, .d (.sl (List.map uD v1))), (1, .fn 96 []), (7, .d (.int .i64 (v1.length : Int))), (8, .d (.int .i64 g))], []⟩) (fun g : Int => slices_IndexFunc_byte__Check_1_l0 v1 g) _ (fun v12 y59 hx ih45 hr46 => ?_) 0 hx
  unfold slices_IndexFunc_byte__Check_1_l0 at hx
  try dsimp only at hx ⊢
  refine Walk.seq (Walk.region' rfl fun K hK => ?_)
  simp only [go_sem, seval]
  refine hK _ ?_
  clear hK K
  refine Walk.seq (Walk.condO rfl hx (fun c48 hx => ?_) (fun c48 hx => ?_))
  · refine Walk.skip (Walk.seq (Walk.block (Walk.seq (Walk.region' rfl fun K hK => ?_))))
    simp only [go_sem, seval, c48]
    refine hK _ ?_
    clear hK K
    refine Walk.seq (Walk.region' rfl fun K hK => ?_)
    obtain ⟨v15, r49, a50, b51, c52, hx⟩ := rd_elim hx
    obtain ⟨v16, h53, hx⟩ := bind_elim hx
    simp only [go_sem, seval, c48, a50, b51, c52]
    repeat refine And.intro (by first | omega | (simp; done) | (simp; omega)) ?_
    refine VCl.pure rfl (by simp only [go_sem, seval, c48, a50, b51, c52]; try simp) (item_Check_1_ok v15 _ h53) (by simp only [go_sem, seval, c48, a50, b51, c52]; try simp) (by simp only [go_sem, seval, c48, a50, b51, c52]; try simp) (by simp only [go_sem, seval, c48, a50, b51, c52]; try simp) (by simp only [go_sem, seval, c48, a50, b51, c52]; try simp) (by simp only [go_sem, seval, c48, a50, b51, c52]; try simp) (by simp only [go_sem, seval, c48, a50, b51, c52]; try simp) ?_
    simp only [go_sem, seval, c48, a50, b51, c52]
    refine hK _ ?_
    clear hK K
    refine Walk.condO rfl hx (fun c54 hx => ?_) (fun c54 hx => ?_)
    · refine Walk.seq (Walk.region' rfl fun K hK => ?_)
      simp only [go_sem, seval, c48, a50, b51, c52, c54]
      refine hK _ ?_
      clear hK K
      obtain ⟨z55, e56, hx⟩ := exit_elim hx
      rw [hr46 z55 e56] at hx
      obtain rfl := Option.some.inj hx
      exact Walk.ret ⟨by simp [c48, a50, b51, c52, c54], by simp [c48, a50, b51, c52, c54]⟩
    refine Walk.skip (Walk.inBlock (Walk.region' rfl fun K hK => ?_))
    simp only [go_sem, seval, c48, a50, b51, c52, c54]
    refine hK _ ?_
    clear hK K
    exact Walk.weaken _ (by simp [c48, a50, b51, c52, c54] <;> omega) (by simp [c48, a50, b51, c52, c54] <;> omega) (ih45 _ (cont_elim hx))
  refine Walk.exit rfl ?_
  obtain ⟨z57, e58, hx⟩ := exit_elim hx
  rw [hr46 z57 e58] at hx
  refine Walk.seq (Walk.region' rfl fun K hK => ?_)
  simp only [go_sem, seval, c48]
  refine hK _ ?_
  clear hK K
  obtain rfl := Option.some.inj hx
  exact Walk.ret ⟨by simp [c48], by simp [c48]⟩
noncomputable def slices_ContainsFunc_byte__Check_1 (v1 : List Int) : Option (Bool) :=
  (slices_IndexFunc_byte__Check_1 v1).bind fun v4 => some (decide (v4 ≥ 0) : Bool)
theorem slices_ContainsFunc_byte__Check_1_ok (v1 : List Int) (r : Bool) (hx : slices_ContainsFunc_byte__Check_1 v1 = some r) :
    ACalls Try.prog 95 [.d (.sl (List.map uD v1)), .fn 96 []] [] (.d (.bool r)) [] := by
  refine ACalls.of_sem (n := 9) 0 [4] (fn := Try.f95) Try.func95 rfl rfl (.one rfl) rfl (by simp) (by intro i; simp only [hget]; (repeat' split) <;> simp <;> omega) ?_
  unfold slices_ContainsFunc_byte__Check_1 at hx
  refine Walk.seq (Walk.region' rfl fun K hK => ?_)
  simp only [go_sem, seval]
  refine hK _ ?_
  clear hK K
  refine Walk.seq (Walk.region' rfl fun K hK => ?_)
  obtain ⟨v4, h2, hx⟩ := bind_elim hx
  simp only [go_sem, seval]
  refine VCl.pure rfl (by simp only [go_sem, seval]; try simp) (slices_IndexFunc_byte__Check_1_ok v1 _ h2) (by simp only [go_sem, seval]; try simp) (by simp only [go_sem, seval]; try simp) (by simp only [go_sem, seval]; try simp) (by simp only [go_sem, seval]; try simp) (by simp only [go_sem, seval]; try simp) (by simp only [go_sem, seval]; try simp) ?_
  simp only [go_sem, seval]
  refine hK _ ?_
  clear hK K
  obtain rfl := Option.some.inj hx
  exact Walk.ret ⟨by simp, by simp⟩
noncomputable def item_ValidPart (v1 : Int) (v2 : Int) (v3 : Int) (v4 : Int) (v5 : Int) (v6 : Int) : Option (Bool) :=
  (item_in v2 1 40).bind fun v19 => bif !v19 then (some (false : Bool)) else ((item_in v3 0 15).bind fun v20 => bif !v20 then (some (false : Bool)) else ((item_in v4 0 5).bind fun v21 => bif !v21 then (some (false : Bool)) else (bif decide (v1 = 1) then (bif decide (v5 = 0) then (some (decide (v6 = 0) : Bool)) else (some (false : Bool))) else (bif decide (v1 = 2) then ((item_in v5 2 5).bind fun v22 => bif v22 then ((item_in v6 0 (IntKind.i64.wrap (v5 - 1))).bind fun v23 => some (v23 : Bool)) else (some (false : Bool))) else (some (false : Bool))))))
theorem item_ValidPart_ok (v1 : Int) (v2 : Int) (v3 : Int) (v4 : Int) (v5 : Int) (v6 : Int) (r : Bool) (hx : item_ValidPart v1 v2 v3 v4 v5 v6 = some r) :
    ACalls Try.prog 110 [.agg [.d (.int .i64 v1), .d (.int .i64 v2), .d (.int .i64 v3), .d (.int .i64 v4), .d (.int .i64 v5), .d (.int .i64 v6)]] [] (.d (.bool r)) [] := by
  refine ACalls.of_sem (n := 44) 0 [2] (fn := Try.f110) Try.func110 rfl rfl (.one rfl) rfl (by simp) (by intro i; simp only [hget]; (repeat' split) <;> simp <;> omega) ?_
  unfold item_ValidPart at hx
  refine Walk.seq (Walk.region' rfl fun K hK => ?_)
  simp only [go_sem, seval]
  refine hK _ ?_
  clear hK K
  refine Walk.seq (Walk.seq (Walk.region' rfl fun K hK => ?_))
  obtain ⟨v19, h26, hx⟩ := bind_elim hx
  simp only [go_sem, seval]
  refine VCl.pure rfl (by simp only [go_sem, seval]; try simp) (item_in_ok v2 1 40 _ h26) (by simp only [go_sem, seval]; try simp) (by simp only [go_sem, seval]; try simp) (by simp only [go_sem, seval]; try simp) (by simp only [go_sem, seval]; try simp) (by simp only [go_sem, seval]; try simp) (by simp only [go_sem, seval]; try simp) ?_
  simp only [go_sem, seval]
  refine VGdO hx (fun g27 hx => ?_) (fun g27 hx => ?_)
  · simp only [go_sem, seval, g27]
    refine hK _ ?_
    clear hK K
    refine Walk.condT rfl (Walk.seq (Walk.region' rfl fun K hK => ?_))
    simp only [go_sem, seval, g27]
    refine hK _ ?_
    clear hK K
    obtain rfl := Option.some.inj hx
    exact Walk.ret ⟨by simp [g27], by simp [g27]⟩
  obtain ⟨v20, h28, hx⟩ := bind_elim hx
  simp only [go_sem, seval, g27]
  refine VCl.pure rfl (by simp only [go_sem, seval, g27]; try simp) (item_in_ok v3 0 15 _ h28) (by simp only [go_sem, seval, g27]; try simp) (by simp only [go_sem, seval, g27]; try simp) (by simp only [go_sem, seval, g27]; try simp) (by simp only [go_sem, seval, g27]; try simp) (by simp only [go_sem, seval, g27]; try simp) (by simp only [go_sem, seval, g27]; try simp) ?_
  simp only [go_sem, seval, g27]
  refine VGdO hx (fun g29 hx => ?_) (fun g29 hx => ?_)
  · simp only [go_sem, seval, g27, g29]
    refine hK _ ?_
    clear hK K
    refine Walk.condT rfl (Walk.seq (Walk.region' rfl fun K hK => ?_))
    simp only [go_sem, seval, g27, g29]
    refine hK _ ?_
    clear hK K
    obtain rfl := Option.some.inj hx
    exact Walk.ret ⟨by simp [g27, g29], by simp [g27, g29]⟩
  obtain ⟨v21, h30, hx⟩ := bind_elim hx
  simp only [go_sem, seval, g27, g29]
  refine VCl.pure rfl (by simp only [go_sem, seval, g27, g29]; try simp) (item_in_ok v4 0 5 _ h30) (by simp only [go_sem, seval, g27, g29]; try simp) (by simp only [go_sem, seval, g27, g29]; try simp) (by simp only [go_sem, seval, g27, g29]; try simp) (by simp only [go_sem, seval, g27, g29]; try simp) (by simp only [go_sem, seval, g27, g29]; try simp) (by simp only [go_sem, seval, g27, g29]; try simp) ?_
  simp only [go_sem, seval, g27, g29]
  refine hK _ ?_
  clear hK K
  refine Walk.condO rfl hx (fun c32 hx => ?_) (fun c32 hx => ?_)
  · refine Walk.seq (Walk.region' rfl fun K hK => ?_)
    simp only [go_sem, seval, g27, g29, c32]
    refine hK _ ?_
    clear hK K
    obtain rfl := Option.some.inj hx
    exact Walk.ret ⟨by simp [g27, g29, c32], by simp [g27, g29, c32]⟩
  refine Walk.skip (Walk.seq (Walk.seq (Walk.region' rfl fun K hK => ?_)))
  simp only [go_sem, seval, g27, g29, c32]
  refine hK _ ?_
  clear hK K
  refine Walk.block (Walk.seq (Walk.region' rfl fun K hK => ?_))
  simp only [go_sem, seval, g27, g29, c32]
  refine hK _ ?_
  clear hK K
  refine Walk.condO rfl hx (fun c33 hx => ?_) (fun c33 hx => ?_)
  · refine Walk.seq (Walk.region' rfl fun K hK => ?_)
    simp only [go_sem, seval, g27, g29, c32, c33]
    refine VGdO hx (fun g34 hx => ?_) (fun g34 hx => ?_)
    · simp only [go_sem, seval, g27, g29, c32, c33, g34]
      refine hK _ ?_
      clear hK K
      obtain rfl := Option.some.inj hx
      exact Walk.ret ⟨by simp [g27, g29, c32, c33, g34], by simp [g27, g29, c32, c33, g34]⟩
    simp only [go_sem, seval, g27, g29, c32, c33, g34]
    refine hK _ ?_
    clear hK K
    obtain rfl := Option.some.inj hx
    exact Walk.ret ⟨by simp [g27, g29, c32, c33, g34], by simp [g27, g29, c32, c33, g34]⟩
  refine Walk.seq (Walk.region' rfl fun K hK => ?_)
  simp only [go_sem, seval, g27, g29, c32, c33]
  refine hK _ ?_
  clear hK K
  refine Walk.condO rfl hx (fun c35 hx => ?_) (fun c35 hx => ?_)
  · refine Walk.seq (Walk.region' rfl fun K hK => ?_)
    obtain ⟨v22, h36, hx⟩ := bind_elim hx
    simp only [go_sem, seval, g27, g29, c32, c33, c35]
    refine VCl.pure rfl (by simp only [go_sem, seval, g27, g29, c32, c33, c35]; try simp) (item_in_ok v5 2 5 _ h36) (by simp only [go_sem, seval, g27, g29, c32, c33, c35]; try simp) (by simp only [go_sem, seval, g27, g29, c32, c33, c35]; try simp) (by simp only [go_sem, seval, g27, g29, c32, c33, c35]; try simp) (by simp only [go_sem, seval, g27, g29, c32, c33, c35]; try simp) (by simp only [go_sem, seval, g27, g29, c32, c33, c35]; try simp) (by simp only [go_sem, seval, g27, g29, c32, c33, c35]; try simp) ?_
    simp only [go_sem, seval, g27, g29, c32, c33, c35]
    refine VGdO hx (fun g37 hx => ?_) (fun g37 hx => ?_)
    · obtain ⟨v23, h38, hx⟩ := bind_elim hx
      simp only [go_sem, seval, g27, g29, c32, c33, c35, g37]
      refine VCl.pure rfl (by simp only [go_sem, seval, g27, g29, c32, c33, c35, g37]; try simp) (item_in_ok v6 0 (IntKind.i64.wrap (v5 - 1)) _ h38) (by simp only [go_sem, seval, g27, g29, c32, c33, c35, g37]; try simp) (by simp only [go_sem, seval, g27, g29, c32, c33, c35, g37]; try simp) (by simp only [go_sem, seval, g27, g29, c32, c33, c35, g37]; try simp) (by simp only [go_sem, seval, g27, g29, c32, c33, c35, g37]; try simp) (by simp only [go_sem, seval, g27, g29, c32, c33, c35, g37]; try simp) (by simp only [go_sem, seval, g27, g29, c32, c33, c35, g37]; try simp) ?_
      simp only [go_sem, seval, g27, g29, c32, c33, c35, g37]
      refine hK _ ?_
      clear hK K
      obtain rfl := Option.some.inj hx
      exact Walk.ret ⟨by simp [g27, g29, c32, c33, c35, g37], by simp [g27, g29, c32, c33, c35, g37]⟩
    simp only [go_sem, seval, g27, g29, c32, c33, c35, g37]
    refine hK _ ?_
    clear hK K
    obtain rfl := Option.some.inj hx
    exact Walk.ret ⟨by simp [g27, g29, c32, c33, c35, g37], by simp [g27, g29, c32, c33, c35, g37]⟩
  refine Walk.skip (Walk.inBlock (Walk.seq (Walk.region' rfl fun K hK => ?_)))
  simp only [go_sem, seval, g27, g29, c32, c33, c35]
  refine hK _ ?_
  clear hK K
  obtain rfl := Option.some.inj hx
  exact Walk.ret ⟨by simp [g27, g29, c32, c33, c35], by simp [g27, g29, c32, c33, c35]⟩
noncomputable def item_bad (v1 : Int) (v2 : Int) (v3 : Int) (v4 : Int) (v5 : Int) (v6 : Int) : Option (Bool) :=
  (item_ValidPart v1 v2 v3 v4 v5 v6).bind fun v9 => some (!v9 : Bool)
theorem item_bad_ok (v1 : Int) (v2 : Int) (v3 : Int) (v4 : Int) (v5 : Int) (v6 : Int) (r : Bool) (hx : item_bad v1 v2 v3 v4 v5 v6 = some r) :
    ACalls Try.prog 98 [.agg [.d (.int .i64 v1), .d (.int .i64 v2), .d (.int .i64 v3), .d (.int .i64 v4), .d (.int .i64 v5), .d (.int .i64 v6)]] [] (.d (.bool r)) [] := by
  refine ACalls.of_sem (n := 6) 0 [2] (fn := Try.f98) Try.func98 rfl rfl (.one rfl) rfl (by simp) (by intro i; simp only [hget]; (repeat' split) <;> simp <;> omega) ?_
  unfold item_bad at hx
  refine Walk.seq (Walk.region' rfl fun K hK => ?_)
  simp only [go_sem, seval]
  refine hK _ ?_
  clear hK K
  refine Walk.seq (Walk.region' rfl fun K hK => ?_)
  obtain ⟨v9, h2, hx⟩ := bind_elim hx
  simp only [go_sem, seval]
  refine VCl.pure rfl (by simp only [go_sem, seval]; try simp) (item_ValidPart_ok v1 v2 v3 v4 v5 v6 _ h2) (by simp only [go_sem, seval]; try simp) (by simp only [go_sem, seval]; try simp) (by simp only [go_sem, seval]; try simp) (by simp only [go_sem, seval]; try simp) (by simp only [go_sem, seval]; try simp) (by simp only [go_sem, seval]; try simp) ?_
  simp only [go_sem, seval]
  refine hK _ ?_
  clear hK K
  obtain rfl := Option.some.inj hx
  exact Walk.ret ⟨by simp, by simp⟩
noncomputable def slices_IndexFunc_Part__bad_l0 (v1 : List Part) (v12 : Int) : Option ((Int) ⊕ (Int)) :=
  bif decide (v12 < (v1.length : Int)) then ((rd v1 v12).bind fun v15 => (item_bad v15.Kind v15.Max v15.Topic v15.Objective v15.Options v15.Key).bind fun v16 => bif v16 then (exitO (some (v12 : Int))) else (contO (IntKind.i64.wrap (v12 + 1) : Int))) else (exitO (some (-1 : Int)))
noncomputable def slices_IndexFunc_Part__bad (v1 : List Part) : Option (Int) :=
  iter (fun g : Int => slices_IndexFunc_Part__bad_l0 v1 g) 0
theorem slices_IndexFunc_Part__bad_ok (v1 : List Part) (r : Int) (hx : slices_IndexFunc_Part__bad v1 = some r) :
    ACalls Try.prog 109 [.d (.sl (List.map Part.D v1)), .fn 98 []] [] (.d (.int .i64 r)) [] := by
  refine ACalls.of_sem (n := 19) 0 [4] (fn := Try.f109) Try.func109 rfl rfl (.one rfl) rfl (by simp) (by intro i; simp only [hget]; (repeat' split) <;> simp <;> omega) ?_
  unfold slices_IndexFunc_Part__bad at hx
  refine Walk.seq (Walk.region' rfl fun K hK => ?_)
  simp only [go_sem, seval]
  refine hK _ ?_
  clear hK K
  refine Walk.seq (Walk.seq (Walk.region' rfl fun K hK => ?_))
  simp only [go_sem, seval]
  refine hK _ ?_
  clear hK K
  refine Walk.block (Walk.loop ?_)
  refine Walk.weaken ⟨[(0, .d (.sl (List.map Part.D v1))), (1, .fn 98 []), (7, .d (.int .i64 (v1.length : Int))), (8, .d (.int .i64 0))], []⟩ (by simp <;> omega) (by simp <;> omega) ?_
  refine Walk.iter (σ := Int) (fun g => ⟨[(0, .d (.sl (List.map Part.D v1))), (1, .fn 98 []), (7, .d (.int .i64 (v1.length : Int))), (8, .d (.int .i64 g))], []⟩) (fun g : Int => slices_IndexFunc_Part__bad_l0 v1 g) _ (fun v12 y59 hx ih45 hr46 => ?_) 0 hx
  unfold slices_IndexFunc_Part__bad_l0 at hx
  try dsimp only at hx ⊢
  refine Walk.seq (Walk.region' rfl fun K hK => ?_)
  simp only [go_sem, seval]
  refine hK _ ?_
  clear hK K
  refine Walk.seq (Walk.condO rfl hx (fun c48 hx => ?_) (fun c48 hx => ?_))
  · refine Walk.skip (Walk.seq (Walk.block (Walk.seq (Walk.region' rfl fun K hK => ?_))))
    simp only [go_sem, seval, c48]
    refine hK _ ?_
    clear hK K
    refine Walk.seq (Walk.region' rfl fun K hK => ?_)
    obtain ⟨v15, r49, a50, b51, c52, hx⟩ := rd_elim hx
    obtain ⟨v16, h53, hx⟩ := bind_elim hx
    simp only [go_sem, seval, c48, a50, b51, c52]
    repeat refine And.intro (by first | omega | (simp; done) | (simp; omega)) ?_
    refine VCl.pure rfl (by simp only [go_sem, seval, c48, a50, b51, c52]; try simp) (item_bad_ok v15.Kind v15.Max v15.Topic v15.Objective v15.Options v15.Key _ h53) (by simp only [go_sem, seval, c48, a50, b51, c52]; try simp) (by simp only [go_sem, seval, c48, a50, b51, c52]; try simp) (by simp only [go_sem, seval, c48, a50, b51, c52]; try simp) (by simp only [go_sem, seval, c48, a50, b51, c52]; try simp) (by simp only [go_sem, seval, c48, a50, b51, c52]; try simp) (by simp only [go_sem, seval, c48, a50, b51, c52]; try simp) ?_
    simp only [go_sem, seval, c48, a50, b51, c52]
    refine hK _ ?_
    clear hK K
    refine Walk.condO rfl hx (fun c54 hx => ?_) (fun c54 hx => ?_)
    · refine Walk.seq (Walk.region' rfl fun K hK => ?_)
      simp only [go_sem, seval, c48, a50, b51, c52, c54]
      refine hK _ ?_
      clear hK K
      obtain ⟨z55, e56, hx⟩ := exit_elim hx
      rw [hr46 z55 e56] at hx
      obtain rfl := Option.some.inj hx
      exact Walk.ret ⟨by simp [c48, a50, b51, c52, c54], by simp [c48, a50, b51, c52, c54]⟩
    refine Walk.skip (Walk.inBlock (Walk.region' rfl fun K hK => ?_))
    simp only [go_sem, seval, c48, a50, b51, c52, c54]
    refine hK _ ?_
    clear hK K
    exact Walk.weaken _ (by simp [c48, a50, b51, c52, c54] <;> omega) (by simp [c48, a50, b51, c52, c54] <;> omega) (ih45 _ (cont_elim hx))
  refine Walk.exit rfl ?_
  obtain ⟨z57, e58, hx⟩ := exit_elim hx
  rw [hr46 z57 e58] at hx
  refine Walk.seq (Walk.region' rfl fun K hK => ?_)
  simp only [go_sem, seval, c48]
  refine hK _ ?_
  clear hK K
  obtain rfl := Option.some.inj hx
  exact Walk.ret ⟨by simp [c48], by simp [c48]⟩
noncomputable def slices_ContainsFunc_Part__bad (v1 : List Part) : Option (Bool) :=
  (slices_IndexFunc_Part__bad v1).bind fun v4 => some (decide (v4 ≥ 0) : Bool)
theorem slices_ContainsFunc_Part__bad_ok (v1 : List Part) (r : Bool) (hx : slices_ContainsFunc_Part__bad v1 = some r) :
    ACalls Try.prog 97 [.d (.sl (List.map Part.D v1)), .fn 98 []] [] (.d (.bool r)) [] := by
  refine ACalls.of_sem (n := 9) 0 [4] (fn := Try.f97) Try.func97 rfl rfl (.one rfl) rfl (by simp) (by intro i; simp only [hget]; (repeat' split) <;> simp <;> omega) ?_
  unfold slices_ContainsFunc_Part__bad at hx
  refine Walk.seq (Walk.region' rfl fun K hK => ?_)
  simp only [go_sem, seval]
  refine hK _ ?_
  clear hK K
  refine Walk.seq (Walk.region' rfl fun K hK => ?_)
  obtain ⟨v4, h2, hx⟩ := bind_elim hx
  simp only [go_sem, seval]
  refine VCl.pure rfl (by simp only [go_sem, seval]; try simp) (slices_IndexFunc_Part__bad_ok v1 _ h2) (by simp only [go_sem, seval]; try simp) (by simp only [go_sem, seval]; try simp) (by simp only [go_sem, seval]; try simp) (by simp only [go_sem, seval]; try simp) (by simp only [go_sem, seval]; try simp) (by simp only [go_sem, seval]; try simp) ?_
  simp only [go_sem, seval]
  refine hK _ ?_
  clear hK K
  obtain rfl := Option.some.inj hx
  exact Walk.ret ⟨by simp, by simp⟩
noncomputable def item_ascending_l0 (v1 : List Int) (v8 : Int) : Option ((Int) ⊕ (Bool)) :=
  bif decide (v8 < (v1.length : Int)) then (bif decide (v8 > 0) then ((rd v1 (IntKind.i64.wrap (v8 - 1))).bind fun v11 => (rd v1 v8).bind fun v12 => bif decide (v11 ≥ v12) then (exitO (some (false : Bool))) else (contO (IntKind.i64.wrap (v8 + 1) : Int))) else (contO (IntKind.i64.wrap (v8 + 1) : Int))) else (exitO (some (true : Bool)))
noncomputable def item_ascending (v1 : List Int) : Option (Bool) :=
  iter (fun g : Int => item_ascending_l0 v1 g) 0
theorem item_ascending_ok (v1 : List Int) (r : Bool) (hx : item_ascending v1 = some r) :
    ACalls Try.prog 99 [.d (.sl (List.map iD v1))] [] (.d (.bool r)) [] := by
  refine ACalls.of_sem (n := 24) 0 [2] (fn := Try.f99) Try.func99 rfl rfl (.one rfl) rfl (by simp) (by intro i; simp only [hget]; (repeat' split) <;> simp <;> omega) ?_
  unfold item_ascending at hx
  refine Walk.seq (Walk.region' rfl fun K hK => ?_)
  simp only [go_sem, seval]
  refine hK _ ?_
  clear hK K
  refine Walk.seq (Walk.seq (Walk.region' rfl fun K hK => ?_))
  simp only [go_sem, seval]
  refine hK _ ?_
  clear hK K
  refine Walk.block (Walk.loop ?_)
  refine Walk.weaken ⟨[(0, .d (.sl (List.map iD v1))), (5, .d (.int .i64 (v1.length : Int))), (6, .d (.int .i64 0))], []⟩ (by simp <;> omega) (by simp <;> omega) ?_
  refine Walk.iter (σ := Int) (fun g => ⟨[(0, .d (.sl (List.map iD v1))), (5, .d (.int .i64 (v1.length : Int))), (6, .d (.int .i64 g))], []⟩) (fun g : Int => item_ascending_l0 v1 g) _ (fun v8 y63 hx ih45 hr46 => ?_) 0 hx
  unfold item_ascending_l0 at hx
  try dsimp only at hx ⊢
  refine Walk.seq (Walk.region' rfl fun K hK => ?_)
  simp only [go_sem, seval]
  refine hK _ ?_
  clear hK K
  refine Walk.seq (Walk.condO rfl hx (fun c48 hx => ?_) (fun c48 hx => ?_))
  · refine Walk.skip (Walk.seq (Walk.block (Walk.seq (Walk.region' rfl fun K hK => ?_))))
    simp only [go_sem, seval, c48]
    refine hK _ ?_
    clear hK K
    refine Walk.seq (Walk.drawn' rfl mixed fun K hK => ?_)
    simp only [go_sem, seval, c48]
    refine VGdO hx (fun g49 hx => ?_) (fun g49 hx => ?_)
    · obtain ⟨v11, r50, a51, b52, c53, hx⟩ := rd_elim hx
      obtain ⟨v12, r54, a55, b56, c57, hx⟩ := rd_elim hx
      simp only [go_sem, seval, c48, g49, a51, b52, c53, a55, b56, c57]
      repeat refine And.intro (by first | omega | (simp; done) | (simp; omega)) ?_
      refine hK _ _ (by kernel_rfl) (by simp [c48, g49, a51, b52, c53, a55, b56, c57]) ?_
      clear hK K
      refine Walk.condO rfl hx (fun c58 hx => ?_) (fun c58 hx => ?_)
      · refine Walk.seq (Walk.region' rfl fun K hK => ?_)
        simp only [go_sem, seval, c48, g49, a51, b52, c53, a55, b56, c57, c58]
        refine hK _ ?_
        clear hK K
        obtain ⟨z59, e60, hx⟩ := exit_elim hx
        rw [hr46 z59 e60] at hx
        obtain rfl := Option.some.inj hx
        exact Walk.ret ⟨by simp [c48, g49, a51, b52, c53, a55, b56, c57, c58], by simp [c48, g49, a51, b52, c53, a55, b56, c57, c58]⟩
      refine Walk.skip (Walk.inBlock (Walk.region' rfl fun K hK => ?_))
      simp only [go_sem, seval, c48, g49, a51, b52, c53, a55, b56, c57, c58]
      refine hK _ ?_
      clear hK K
      exact Walk.weaken _ (by simp [c48, g49, a51, b52, c53, a55, b56, c57, c58] <;> omega) (by simp [c48, g49, a51, b52, c53, a55, b56, c57, c58] <;> omega) (ih45 _ (cont_elim hx))
    simp only [go_sem, seval, c48, g49]
    refine hK _ _ (by kernel_rfl) (by simp [c48, g49]) ?_
    clear hK K
    refine Walk.condF rfl (Walk.skip (Walk.inBlock (Walk.region' rfl fun K hK => ?_)))
    simp only [go_sem, seval, c48, g49]
    refine hK _ ?_
    clear hK K
    exact Walk.weaken _ (by simp [c48, g49] <;> omega) (by simp [c48, g49] <;> omega) (ih45 _ (cont_elim hx))
  refine Walk.exit rfl ?_
  obtain ⟨z61, e62, hx⟩ := exit_elim hx
  rw [hr46 z61 e62] at hx
  refine Walk.seq (Walk.region' rfl fun K hK => ?_)
  simp only [go_sem, seval, c48]
  refine hK _ ?_
  clear hK K
  obtain rfl := Option.some.inj hx
  exact Walk.ret ⟨by simp [c48], by simp [c48]⟩
noncomputable def item_Check_2 (v1 : Int) (v2 : Int) (v3 : Int) (v4 : List UInt8) (v5 : List Part) (v6 : List Int) : Option (Bool) :=
  (item_in v1 0 9999).bind fun v9 => bif !v9 then (some (true : Bool)) else (some (decide (v1 = v2) : Bool))
theorem item_Check_2_ok (v1 : Int) (v2 : Int) (v3 : Int) (v4 : List UInt8) (v5 : List Part) (v6 : List Int) (r : Bool) (hx : item_Check_2 v1 v2 v3 v4 v5 v6 = some r) :
    ACalls Try.prog 100 [.d (.int .i64 v1), .box 0 0] [(0, some (.box [.d (.int .i64 v2), .d (.int .i64 v3), .d (.str v4), .d (.sl (List.map Part.D v5)), .d (.sl (List.map iD v6))]))] (.d (.bool r)) [(0, some (.box [.d (.int .i64 v2), .d (.int .i64 v3), .d (.str v4), .d (.sl (List.map Part.D v5)), .d (.sl (List.map iD v6))]))] := by
  refine ACalls.of_sem (n := 13) 1 [3] (fn := Try.f100) Try.func100 rfl rfl (.one rfl) rfl (by simp) (by intro i; simp only [hget]; (repeat' split) <;> simp <;> omega) ?_
  unfold item_Check_2 at hx
  refine Walk.seq (Walk.region' rfl fun K hK => ?_)
  simp only [go_sem, seval]
  refine hK _ ?_
  clear hK K
  refine Walk.seq (Walk.region' rfl fun K hK => ?_)
  obtain ⟨v9, h3, hx⟩ := bind_elim hx
  simp only [go_sem, seval]
  refine VCl.pure rfl (by simp only [go_sem, seval]; try simp) (item_in_ok v1 0 9999 _ h3) (by simp only [go_sem, seval]; try simp) (by simp only [go_sem, seval]; try simp) (by simp only [go_sem, seval]; try simp) (by simp only [go_sem, seval]; try simp) (by simp only [go_sem, seval]; try simp) (by simp only [go_sem, seval]; try simp) ?_
  simp only [go_sem, seval]
  refine VGdO hx (fun g4 hx => ?_) (fun g4 hx => ?_)
  · simp only [go_sem, seval, g4]
    refine hK _ ?_
    clear hK K
    obtain rfl := Option.some.inj hx
    exact Walk.ret ⟨by simp [g4], by simp [g4]⟩
  simp only [go_sem, seval, g4]
  refine hK _ ?_
  clear hK K
  obtain rfl := Option.some.inj hx
  exact Walk.ret ⟨by simp [g4], by simp [g4]⟩
noncomputable def slices_IndexFunc_int__Check_2_l0 (v1 : List Int) (v2 : Int) (v3 : Int) (v4 : List UInt8) (v5 : List Part) (v6 : List Int) (v17 : Int) : Option ((Int) ⊕ (Int)) :=
  bif decide (v17 < (v1.length : Int)) then ((rd v1 v17).bind fun v20 => (item_Check_2 v20 v2 v3 v4 v5 v6).bind fun v21 => bif v21 then (exitO (some (v17 : Int))) else (contO (IntKind.i64.wrap (v17 + 1) : Int))) else (exitO (some (-1 : Int)))
noncomputable def slices_IndexFunc_int__Check_2 (v1 : List Int) (v2 : Int) (v3 : Int) (v4 : List UInt8) (v5 : List Part) (v6 : List Int) : Option (Int) :=
  iter (fun g : Int => slices_IndexFunc_int__Check_2_l0 v1 v2 v3 v4 v5 v6 g) 0
theorem slices_IndexFunc_int__Check_2_ok (v1 : List Int) (v2 : Int) (v3 : Int) (v4 : List UInt8) (v5 : List Part) (v6 : List Int) (r : Int) (hx : slices_IndexFunc_int__Check_2 v1 v2 v3 v4 v5 v6 = some r) :
    ACalls Try.prog 106 [.d (.sl (List.map iD v1)), .fn 100 [.box 0 0]] [(0, some (.box [.d (.int .i64 v2), .d (.int .i64 v3), .d (.str v4), .d (.sl (List.map Part.D v5)), .d (.sl (List.map iD v6))]))] (.d (.int .i64 r)) [(0, some (.box [.d (.int .i64 v2), .d (.int .i64 v3), .d (.str v4), .d (.sl (List.map Part.D v5)), .d (.sl (List.map iD v6))]))] := by
  refine ACalls.of_sem (n := 19) 1 [4] (fn := Try.f106) Try.func106 rfl rfl (.one rfl) rfl (by simp) (by intro i; simp only [hget]; (repeat' split) <;> simp <;> omega) ?_
  unfold slices_IndexFunc_int__Check_2 at hx
  refine Walk.seq (Walk.region' rfl fun K hK => ?_)
  simp only [go_sem, seval]
  refine hK _ ?_
  clear hK K
  refine Walk.seq (Walk.seq (Walk.region' rfl fun K hK => ?_))
  simp only [go_sem, seval]
  refine hK _ ?_
  clear hK K
  refine Walk.block (Walk.loop ?_)
  refine Walk.weaken ⟨[(0, .d (.sl (List.map iD v1))), (1, .fn 100 [.box 0 0]), (7, .d (.int .i64 (v1.length : Int))), (8, .d (.int .i64 0))], [(0, some (.box [.d (.int .i64 v2), .d (.int .i64 v3), .d (.str v4), .d (.sl (List.map Part.D v5)), .d (.sl (List.map iD v6))]))]⟩ (by simp <;> omega) (by simp <;> omega) ?_
  refine Walk.iter (σ := Int) (fun g => ⟨[(0, .d (.sl (List.map iD v1))), (1, .fn 100 [.box 0 0]), (7, .d (.int .i64 (v1.length : Int))), (8, .d (.int .i64 g))], [(0, some (.box [.d (.int .i64 v2), .d (.int .i64 v3), .d (.str v4), .d (.sl (List.map Part.D v5)), .d (.sl (List.map iD v6))]))]⟩) (fun g : Int => slices_IndexFunc_int__Check_2_l0 v1 v2 v3 v4 v5 v6 g) _ (fun v17 y59 hx ih45 hr46 => ?_) 0 hx
  unfold slices_IndexFunc_int__Check_2_l0 at hx
  try dsimp only at hx ⊢
  refine Walk.seq (Walk.region' rfl fun K hK => ?_)
  simp only [go_sem, seval]
  refine hK _ ?_
  clear hK K
  refine Walk.seq (Walk.condO rfl hx (fun c48 hx => ?_) (fun c48 hx => ?_))
  · refine Walk.skip (Walk.seq (Walk.block (Walk.seq (Walk.region' rfl fun K hK => ?_))))
    simp only [go_sem, seval, c48]
    refine hK _ ?_
    clear hK K
    refine Walk.seq (Walk.region' rfl fun K hK => ?_)
    obtain ⟨v20, r49, a50, b51, c52, hx⟩ := rd_elim hx
    obtain ⟨v21, h53, hx⟩ := bind_elim hx
    simp only [go_sem, seval, c48, a50, b51, c52]
    repeat refine And.intro (by first | omega | (simp; done) | (simp; omega)) ?_
    refine VCl.sub [(0, some (.box [.d (.int .i64 v2), .d (.int .i64 v3), .d (.str v4), .d (.sl (List.map Part.D v5)), .d (.sl (List.map iD v6))]))] [] rfl (by simp only [go_sem, seval, AV.viewXs, AV.viewX, avD, c48, a50, b51, c52]; try simp) (item_Check_2_ok v20 v2 v3 v4 v5 v6 _ h53) (by simp [c48, a50, b51, c52]) (by simp [c48, a50, b51, c52]) (by simp [c48, a50, b51, c52]) (by simp [c48, a50, b51, c52]) (by simp [c48, a50, b51, c52]) (by simp [c48, a50, b51, c52]) (by simp [c48, a50, b51, c52]) (by simp [c48, a50, b51, c52]) (by simp [c48, a50, b51, c52]) (by simp [c48, a50, b51, c52]) ?_
    simp only [go_sem, seval, c48, a50, b51, c52]
    refine hK _ ?_
    clear hK K
    refine Walk.weaken ⟨[(0, .d (.sl (List.map iD v1))), (1, .fn 100 [.box 0 0]), (5, .d (.int .i64 v17)), (7, .d (.int .i64 (v1.length : Int))), (8, .d (.int .i64 v17)), (16, .d (.bool v21))], [(0, some (.box [.d (.int .i64 v2), .d (.int .i64 v3), .d (.str v4), .d (.sl (List.map Part.D v5)), .d (.sl (List.map iD v6))]))]⟩ (by simp [c48, a50, b51, c52] <;> omega) (by simp [c48, a50, b51, c52] <;> omega) ?_
    refine Walk.condO rfl hx (fun c54 hx => ?_) (fun c54 hx => ?_)
    · refine Walk.seq (Walk.region' rfl fun K hK => ?_)
      simp only [go_sem, seval, c48, a50, b51, c52, c54]
      refine hK _ ?_
      clear hK K
      obtain ⟨z55, e56, hx⟩ := exit_elim hx
      rw [hr46 z55 e56] at hx
      obtain rfl := Option.some.inj hx
      exact Walk.ret ⟨by simp [c48, a50, b51, c52, c54], by simp [c48, a50, b51, c52, c54]⟩
    refine Walk.skip (Walk.inBlock (Walk.region' rfl fun K hK => ?_))
    simp only [go_sem, seval, c48, a50, b51, c52, c54]
    refine hK _ ?_
    clear hK K
    exact Walk.weaken _ (by simp [c48, a50, b51, c52, c54] <;> omega) (by simp [c48, a50, b51, c52, c54] <;> omega) (ih45 _ (cont_elim hx))
  refine Walk.exit rfl ?_
  obtain ⟨z57, e58, hx⟩ := exit_elim hx
  rw [hr46 z57 e58] at hx
  refine Walk.seq (Walk.region' rfl fun K hK => ?_)
  simp only [go_sem, seval, c48]
  refine hK _ ?_
  clear hK K
  obtain rfl := Option.some.inj hx
  exact Walk.ret ⟨by simp [c48], by simp [c48]⟩
noncomputable def slices_ContainsFunc_int__Check_2 (v1 : List Int) (v2 : Int) (v3 : Int) (v4 : List UInt8) (v5 : List Part) (v6 : List Int) : Option (Bool) :=
  (slices_IndexFunc_int__Check_2 v1 v2 v3 v4 v5 v6).bind fun v9 => some (decide (v9 ≥ 0) : Bool)
theorem slices_ContainsFunc_int__Check_2_ok (v1 : List Int) (v2 : Int) (v3 : Int) (v4 : List UInt8) (v5 : List Part) (v6 : List Int) (r : Bool) (hx : slices_ContainsFunc_int__Check_2 v1 v2 v3 v4 v5 v6 = some r) :
    ACalls Try.prog 88 [.d (.sl (List.map iD v1)), .fn 100 [.box 0 0]] [(0, some (.box [.d (.int .i64 v2), .d (.int .i64 v3), .d (.str v4), .d (.sl (List.map Part.D v5)), .d (.sl (List.map iD v6))]))] (.d (.bool r)) [(0, some (.box [.d (.int .i64 v2), .d (.int .i64 v3), .d (.str v4), .d (.sl (List.map Part.D v5)), .d (.sl (List.map iD v6))]))] := by
  refine ACalls.of_sem (n := 9) 1 [4] (fn := Try.f88) Try.func88 rfl rfl (.one rfl) rfl (by simp) (by intro i; simp only [hget]; (repeat' split) <;> simp <;> omega) ?_
  unfold slices_ContainsFunc_int__Check_2 at hx
  refine Walk.seq (Walk.region' rfl fun K hK => ?_)
  simp only [go_sem, seval]
  refine hK _ ?_
  clear hK K
  refine Walk.seq (Walk.region' rfl fun K hK => ?_)
  obtain ⟨v9, h2, hx⟩ := bind_elim hx
  simp only [go_sem, seval]
  refine VCl.sub [(0, some (.box [.d (.int .i64 v2), .d (.int .i64 v3), .d (.str v4), .d (.sl (List.map Part.D v5)), .d (.sl (List.map iD v6))]))] [] rfl (by simp only [go_sem, seval, AV.viewXs, AV.viewX, avD]; try simp) (slices_IndexFunc_int__Check_2_ok v1 v2 v3 v4 v5 v6 _ h2) (by simp) (by simp) (by simp) (by simp) (by simp) (by simp) (by simp) (by simp) (by simp) (by simp) ?_
  simp only [go_sem, seval]
  refine hK _ ?_
  clear hK K
  refine Walk.weaken ⟨[(4, .d (.bool (decide (v9 ≥ 0))))], [(0, some (.box [.d (.int .i64 v2), .d (.int .i64 v3), .d (.str v4), .d (.sl (List.map Part.D v5)), .d (.sl (List.map iD v6))]))]⟩ (by simp <;> omega) (by simp <;> omega) ?_
  obtain rfl := Option.some.inj hx
  exact Walk.ret ⟨by simp, by simp⟩
noncomputable def item_Check (v1 : Int) (v2 : Int) (v3 : List UInt8) (v4 : List Part) (v5 : List Int) : Option (Int) :=
  (item_in v1 0 9999).bind fun v13 => bif !v13 then (some (2 : Int)) else ((item_in v2 1 8).bind fun v14 => bif !v14 then (some (2 : Int)) else (bif decide ((v3.length : Int) > 40) then (some (3 : Int)) else (bif decide ((v4.length : Int) > 6) then (some (3 : Int)) else (bif decide ((v5.length : Int) > 8) then (some (3 : Int)) else (bif decide (v3 = []) then (some (7 : Int)) else ((slices_ContainsFunc_byte__Check_1 (bytesL v3)).bind fun v15 => bif v15 then (some (7 : Int)) else (bif decide ((v4.length : Int) = 0) then (some (10 : Int)) else ((slices_ContainsFunc_Part__bad v4).bind fun v16 => bif v16 then (some (1 : Int)) else ((item_ascending v5).bind fun v17 => bif !v17 then (some (9 : Int)) else ((slices_ContainsFunc_int__Check_2 v5 v1 v2 v3 v4 v5).bind fun v18 => bif v18 then (some (9 : Int)) else (some (0 : Int))))))))))))
theorem item_Check_ok (v1 : Int) (v2 : Int) (v3 : List UInt8) (v4 : List Part) (v5 : List Int) (r : Int) (hx : item_Check v1 v2 v3 v4 v5 = some r) :
    ACalls Try.prog 64 [.agg [.d (.int .i64 v1), .d (.int .i64 v2), .d (.str v3), .d (.sl (List.map Part.D v4)), .d (.sl (List.map iD v5))]] [] (.d (.int .i64 r)) [] := by
  refine ACalls.of_sem (n := 61) 0 [2] (fn := Try.f64) Try.func64 rfl rfl (.one rfl) rfl (by simp) (by intro i; simp only [hget]; (repeat' split) <;> simp <;> omega) ?_
  unfold item_Check at hx
  refine Walk.seq (Walk.region' rfl fun K hK => ?_)
  simp only [go_sem, seval]
  refine hK _ ?_
  clear hK K
  refine Walk.seq (Walk.block (Walk.seq (Walk.region' rfl fun K hK => ?_)))
  obtain ⟨v13, h19, hx⟩ := bind_elim hx
  simp only [go_sem, seval]
  refine VCl.pure rfl (by simp only [go_sem, seval]; try simp) (item_in_ok v1 0 9999 _ h19) (by simp only [go_sem, seval]; try simp) (by simp only [go_sem, seval]; try simp) (by simp only [go_sem, seval]; try simp) (by simp only [go_sem, seval]; try simp) (by simp only [go_sem, seval]; try simp) (by simp only [go_sem, seval]; try simp) ?_
  simp only [go_sem, seval]
  refine VGdO hx (fun g20 hx => ?_) (fun g20 hx => ?_)
  · simp only [go_sem, seval, g20]
    refine hK _ ?_
    clear hK K
    refine Walk.condT rfl (Walk.seq (Walk.region' rfl fun K hK => ?_))
    simp only [go_sem, seval, g20]
    refine hK _ ?_
    clear hK K
    obtain rfl := Option.some.inj hx
    exact Walk.ret ⟨by simp [g20], by simp [g20]⟩
  obtain ⟨v14, h21, hx⟩ := bind_elim hx
  simp only [go_sem, seval, g20]
  refine VCl.pure rfl (by simp only [go_sem, seval, g20]; try simp) (item_in_ok v2 1 8 _ h21) (by simp only [go_sem, seval, g20]; try simp) (by simp only [go_sem, seval, g20]; try simp) (by simp only [go_sem, seval, g20]; try simp) (by simp only [go_sem, seval, g20]; try simp) (by simp only [go_sem, seval, g20]; try simp) (by simp only [go_sem, seval, g20]; try simp) ?_
  simp only [go_sem, seval, g20]
  refine hK _ ?_
  clear hK K
  refine Walk.condO rfl hx (fun c22 hx => ?_) (fun c22 hx => ?_)
  · refine Walk.seq (Walk.region' rfl fun K hK => ?_)
    simp only [go_sem, seval, g20, c22]
    refine hK _ ?_
    clear hK K
    obtain rfl := Option.some.inj hx
    exact Walk.ret ⟨by simp [g20, c22], by simp [g20, c22]⟩
  refine Walk.seq (Walk.region' rfl fun K hK => ?_)
  simp only [go_sem, seval, g20, c22]
  refine VGdO hx (fun g23 hx => ?_) (fun g23 hx => ?_)
  · simp only [go_sem, seval, g20, c22, g23]
    refine hK _ ?_
    clear hK K
    refine Walk.condT rfl (Walk.seq (Walk.region' rfl fun K hK => ?_))
    simp only [go_sem, seval, g20, c22, g23]
    refine hK _ ?_
    clear hK K
    obtain rfl := Option.some.inj hx
    exact Walk.ret ⟨by simp [g20, c22, g23], by simp [g20, c22, g23]⟩
  simp only [go_sem, seval, g20, c22, g23]
  refine VGdO hx (fun g24 hx => ?_) (fun g24 hx => ?_)
  · simp only [go_sem, seval, g20, c22, g23, g24]
    refine hK _ ?_
    clear hK K
    refine Walk.condT rfl (Walk.seq (Walk.region' rfl fun K hK => ?_))
    simp only [go_sem, seval, g20, c22, g23, g24]
    refine hK _ ?_
    clear hK K
    obtain rfl := Option.some.inj hx
    exact Walk.ret ⟨by simp [g20, c22, g23, g24], by simp [g20, c22, g23, g24]⟩
  simp only [go_sem, seval, g20, c22, g23, g24]
  refine hK _ ?_
  clear hK K
  refine Walk.condO rfl hx (fun c25 hx => ?_) (fun c25 hx => ?_)
  · refine Walk.seq (Walk.region' rfl fun K hK => ?_)
    simp only [go_sem, seval, g20, c22, g23, g24, c25]
    refine hK _ ?_
    clear hK K
    obtain rfl := Option.some.inj hx
    exact Walk.ret ⟨by simp [g20, c22, g23, g24, c25], by simp [g20, c22, g23, g24, c25]⟩
  refine Walk.seq (Walk.region' rfl fun K hK => ?_)
  simp only [go_sem, seval, g20, c22, g23, g24, c25]
  refine VGdO hx (fun g26 hx => ?_) (fun g26 hx => ?_)
  · simp only [go_sem, seval, g20, c22, g23, g24, c25, g26]
    refine hK _ ?_
    clear hK K
    refine Walk.condT rfl (Walk.seq (Walk.region' rfl fun K hK => ?_))
    simp only [go_sem, seval, g20, c22, g23, g24, c25, g26]
    refine hK _ ?_
    clear hK K
    obtain rfl := Option.some.inj hx
    exact Walk.ret ⟨by simp [g20, c22, g23, g24, c25, g26], by simp [g20, c22, g23, g24, c25, g26]⟩
  obtain ⟨v15, h27, hx⟩ := bind_elim hx
  simp only [go_sem, seval, g20, c22, g23, g24, c25, g26]
  refine VCl.pure rfl (by simp only [go_sem, seval, g20, c22, g23, g24, c25, g26]; try simp) (slices_ContainsFunc_byte__Check_1_ok (bytesL v3) _ h27) (by simp only [go_sem, seval, g20, c22, g23, g24, c25, g26]; try simp) (by simp only [go_sem, seval, g20, c22, g23, g24, c25, g26]; try simp) (by simp only [go_sem, seval, g20, c22, g23, g24, c25, g26]; try simp) (by simp only [go_sem, seval, g20, c22, g23, g24, c25, g26]; try simp) (by simp only [go_sem, seval, g20, c22, g23, g24, c25, g26]; try simp) (by simp only [go_sem, seval, g20, c22, g23, g24, c25, g26]; try simp) ?_
  simp only [go_sem, seval, g20, c22, g23, g24, c25, g26]
  refine hK _ ?_
  clear hK K
  refine Walk.condO rfl hx (fun c28 hx => ?_) (fun c28 hx => ?_)
  · refine Walk.seq (Walk.region' rfl fun K hK => ?_)
    simp only [go_sem, seval, g20, c22, g23, g24, c25, g26, c28]
    refine hK _ ?_
    clear hK K
    obtain rfl := Option.some.inj hx
    exact Walk.ret ⟨by simp [g20, c22, g23, g24, c25, g26, c28], by simp [g20, c22, g23, g24, c25, g26, c28]⟩
  refine Walk.seq (Walk.region' rfl fun K hK => ?_)
  simp only [go_sem, seval, g20, c22, g23, g24, c25, g26, c28]
  refine hK _ ?_
  clear hK K
  refine Walk.condO rfl hx (fun c29 hx => ?_) (fun c29 hx => ?_)
  · refine Walk.seq (Walk.region' rfl fun K hK => ?_)
    simp only [go_sem, seval, g20, c22, g23, g24, c25, g26, c28, c29]
    refine hK _ ?_
    clear hK K
    obtain rfl := Option.some.inj hx
    exact Walk.ret ⟨by simp [g20, c22, g23, g24, c25, g26, c28, c29], by simp [g20, c22, g23, g24, c25, g26, c28, c29]⟩
  refine Walk.seq (Walk.region' rfl fun K hK => ?_)
  obtain ⟨v16, h30, hx⟩ := bind_elim hx
  simp only [go_sem, seval, g20, c22, g23, g24, c25, g26, c28, c29]
  refine VCl.pure rfl (by simp only [go_sem, seval, g20, c22, g23, g24, c25, g26, c28, c29]; try simp) (slices_ContainsFunc_Part__bad_ok v4 _ h30) (by simp only [go_sem, seval, g20, c22, g23, g24, c25, g26, c28, c29]; try simp) (by simp only [go_sem, seval, g20, c22, g23, g24, c25, g26, c28, c29]; try simp) (by simp only [go_sem, seval, g20, c22, g23, g24, c25, g26, c28, c29]; try simp) (by simp only [go_sem, seval, g20, c22, g23, g24, c25, g26, c28, c29]; try simp) (by simp only [go_sem, seval, g20, c22, g23, g24, c25, g26, c28, c29]; try simp) (by simp only [go_sem, seval, g20, c22, g23, g24, c25, g26, c28, c29]; try simp) ?_
  simp only [go_sem, seval, g20, c22, g23, g24, c25, g26, c28, c29]
  refine hK _ ?_
  clear hK K
  refine Walk.condO rfl hx (fun c31 hx => ?_) (fun c31 hx => ?_)
  · refine Walk.seq (Walk.region' rfl fun K hK => ?_)
    simp only [go_sem, seval, g20, c22, g23, g24, c25, g26, c28, c29, c31]
    refine hK _ ?_
    clear hK K
    obtain rfl := Option.some.inj hx
    exact Walk.ret ⟨by simp [g20, c22, g23, g24, c25, g26, c28, c29, c31], by simp [g20, c22, g23, g24, c25, g26, c28, c29, c31]⟩
  refine Walk.seq (Walk.region' rfl fun K hK => ?_)
  obtain ⟨v17, h32, hx⟩ := bind_elim hx
  simp only [go_sem, seval, g20, c22, g23, g24, c25, g26, c28, c29, c31]
  refine VCl.pure rfl (by simp only [go_sem, seval, g20, c22, g23, g24, c25, g26, c28, c29, c31]; try simp) (item_ascending_ok v5 _ h32) (by simp only [go_sem, seval, g20, c22, g23, g24, c25, g26, c28, c29, c31]; try simp) (by simp only [go_sem, seval, g20, c22, g23, g24, c25, g26, c28, c29, c31]; try simp) (by simp only [go_sem, seval, g20, c22, g23, g24, c25, g26, c28, c29, c31]; try simp) (by simp only [go_sem, seval, g20, c22, g23, g24, c25, g26, c28, c29, c31]; try simp) (by simp only [go_sem, seval, g20, c22, g23, g24, c25, g26, c28, c29, c31]; try simp) (by simp only [go_sem, seval, g20, c22, g23, g24, c25, g26, c28, c29, c31]; try simp) ?_
  simp only [go_sem, seval, g20, c22, g23, g24, c25, g26, c28, c29, c31]
  refine VGdO hx (fun g33 hx => ?_) (fun g33 hx => ?_)
  · simp only [go_sem, seval, g20, c22, g23, g24, c25, g26, c28, c29, c31, g33]
    refine hK _ ?_
    clear hK K
    refine Walk.condT rfl (Walk.seq (Walk.region' rfl fun K hK => ?_))
    simp only [go_sem, seval, g20, c22, g23, g24, c25, g26, c28, c29, c31, g33]
    refine hK _ ?_
    clear hK K
    obtain rfl := Option.some.inj hx
    exact Walk.ret ⟨by simp [g20, c22, g23, g24, c25, g26, c28, c29, c31, g33], by simp [g20, c22, g23, g24, c25, g26, c28, c29, c31, g33]⟩
  obtain ⟨v18, h34, hx⟩ := bind_elim hx
  have w35 := ((slices_ContainsFunc_int__Check_2_ok v5 v1 v2 v3 v4 v5 _ h34).swap 0 1)
  simp only [renE, renL, AV.ren, AV.rens, AObj.ren, swp, Option.map_some, reduceIte, Nat.reduceEqDiff] at w35
  simp only [go_sem, seval, g20, c22, g23, g24, c25, g26, c28, c29, c31, g33]
  refine VCl.sub [(1, some (.box [.d (.int .i64 v1), .d (.int .i64 v2), .d (.str v3), .d (.sl (List.map Part.D v4)), .d (.sl (List.map iD v5))]))] [] rfl (by simp only [go_sem, seval, AV.viewXs, AV.viewX, avD, g20, c22, g23, g24, c25, g26, c28, c29, c31, g33]; try simp) (w35) (by simp [g20, c22, g23, g24, c25, g26, c28, c29, c31, g33]) (by simp [g20, c22, g23, g24, c25, g26, c28, c29, c31, g33]) (by simp [g20, c22, g23, g24, c25, g26, c28, c29, c31, g33]) (by simp [g20, c22, g23, g24, c25, g26, c28, c29, c31, g33]) (by simp [g20, c22, g23, g24, c25, g26, c28, c29, c31, g33]) (by simp [g20, c22, g23, g24, c25, g26, c28, c29, c31, g33]) (by simp [g20, c22, g23, g24, c25, g26, c28, c29, c31, g33]) (by simp [g20, c22, g23, g24, c25, g26, c28, c29, c31, g33]) (by simp [g20, c22, g23, g24, c25, g26, c28, c29, c31, g33]) (by simp [g20, c22, g23, g24, c25, g26, c28, c29, c31, g33]) ?_
  simp only [go_sem, seval, g20, c22, g23, g24, c25, g26, c28, c29, c31, g33]
  refine hK _ ?_
  clear hK K
  refine Walk.weaken ⟨[(50, .d (.bool v18))], []⟩ (by simp [g20, c22, g23, g24, c25, g26, c28, c29, c31, g33] <;> omega) (by simp [g20, c22, g23, g24, c25, g26, c28, c29, c31, g33] <;> omega) ?_
  refine Walk.condO rfl hx (fun c36 hx => ?_) (fun c36 hx => ?_)
  · refine Walk.seq (Walk.region' rfl fun K hK => ?_)
    simp only [go_sem, seval, g20, c22, g23, g24, c25, g26, c28, c29, c31, g33, c36]
    refine hK _ ?_
    clear hK K
    obtain rfl := Option.some.inj hx
    exact Walk.ret ⟨by simp [g20, c22, g23, g24, c25, g26, c28, c29, c31, g33, c36], by simp [g20, c22, g23, g24, c25, g26, c28, c29, c31, g33, c36]⟩
  refine Walk.skip (Walk.inBlock (Walk.seq (Walk.region' rfl fun K hK => ?_)))
  simp only [go_sem, seval, g20, c22, g23, g24, c25, g26, c28, c29, c31, g33, c36]
  refine hK _ ?_
  clear hK K
  obtain rfl := Option.some.inj hx
  exact Walk.ret ⟨by simp [g20, c22, g23, g24, c25, g26, c28, c29, c31, g33, c36], by simp [g20, c22, g23, g24, c25, g26, c28, c29, c31, g33, c36]⟩
noncomputable def blueprint_Rows_1 (v1 : Int) (v2 : Int) (v3 : List UInt8) (v4 : List Part) (v5 : List Int) : Option (Bool) :=
  (item_Check v1 v2 v3 v4 v5).bind fun v8 => some (decide (¬ v8 = 0) : Bool)
theorem blueprint_Rows_1_ok (v1 : Int) (v2 : Int) (v3 : List UInt8) (v4 : List Part) (v5 : List Int) (r : Bool) (hx : blueprint_Rows_1 v1 v2 v3 v4 v5 = some r) :
    ACalls Try.prog 63 [.agg [.d (.int .i64 v1), .d (.int .i64 v2), .d (.str v3), .d (.sl (List.map Part.D v4)), .d (.sl (List.map iD v5))]] [] (.d (.bool r)) [] := by
  refine ACalls.of_sem (n := 6) 0 [2] (fn := Try.f63) Try.func63 rfl rfl (.one rfl) rfl (by simp) (by intro i; simp only [hget]; (repeat' split) <;> simp <;> omega) ?_
  unfold blueprint_Rows_1 at hx
  refine Walk.seq (Walk.region' rfl fun K hK => ?_)
  simp only [go_sem, seval]
  refine hK _ ?_
  clear hK K
  refine Walk.seq (Walk.region' rfl fun K hK => ?_)
  obtain ⟨v8, h2, hx⟩ := bind_elim hx
  simp only [go_sem, seval]
  refine VCl.pure rfl (by simp only [go_sem, seval]; try simp) (item_Check_ok v1 v2 v3 v4 v5 _ h2) (by simp only [go_sem, seval]; try simp) (by simp only [go_sem, seval]; try simp) (by simp only [go_sem, seval]; try simp) (by simp only [go_sem, seval]; try simp) (by simp only [go_sem, seval]; try simp) (by simp only [go_sem, seval]; try simp) ?_
  simp only [go_sem, seval]
  refine hK _ ?_
  clear hK K
  obtain rfl := Option.some.inj hx
  exact Walk.ret ⟨by simp, by simp⟩
noncomputable def slices_IndexFunc_Item__Rows_1_l0 (v1 : List TItem) (v12 : Int) : Option ((Int) ⊕ (Int)) :=
  bif decide (v12 < (v1.length : Int)) then ((rd v1 v12).bind fun v15 => (blueprint_Rows_1 v15.ID v15.Version v15.Stem v15.Parts v15.Enemies).bind fun v16 => bif v16 then (exitO (some (v12 : Int))) else (contO (IntKind.i64.wrap (v12 + 1) : Int))) else (exitO (some (-1 : Int)))
noncomputable def slices_IndexFunc_Item__Rows_1 (v1 : List TItem) : Option (Int) :=
  iter (fun g : Int => slices_IndexFunc_Item__Rows_1_l0 v1 g) 0
theorem slices_IndexFunc_Item__Rows_1_ok (v1 : List TItem) (r : Int) (hx : slices_IndexFunc_Item__Rows_1 v1 = some r) :
    ACalls Try.prog 93 [.d (.sl (List.map TItem.D v1)), .fn 63 []] [] (.d (.int .i64 r)) [] := by
  refine ACalls.of_sem (n := 19) 0 [4] (fn := Try.f93) Try.func93 rfl rfl (.one rfl) rfl (by simp) (by intro i; simp only [hget]; (repeat' split) <;> simp <;> omega) ?_
  unfold slices_IndexFunc_Item__Rows_1 at hx
  refine Walk.seq (Walk.region' rfl fun K hK => ?_)
  simp only [go_sem, seval]
  refine hK _ ?_
  clear hK K
  refine Walk.seq (Walk.seq (Walk.region' rfl fun K hK => ?_))
  simp only [go_sem, seval]
  refine hK _ ?_
  clear hK K
  refine Walk.block (Walk.loop ?_)
  refine Walk.weaken ⟨[(0, .d (.sl (List.map TItem.D v1))), (1, .fn 63 []), (7, .d (.int .i64 (v1.length : Int))), (8, .d (.int .i64 0))], []⟩ (by simp <;> omega) (by simp <;> omega) ?_
  refine Walk.iter (σ := Int) (fun g => ⟨[(0, .d (.sl (List.map TItem.D v1))), (1, .fn 63 []), (7, .d (.int .i64 (v1.length : Int))), (8, .d (.int .i64 g))], []⟩) (fun g : Int => slices_IndexFunc_Item__Rows_1_l0 v1 g) _ (fun v12 y59 hx ih45 hr46 => ?_) 0 hx
  unfold slices_IndexFunc_Item__Rows_1_l0 at hx
  try dsimp only at hx ⊢
  refine Walk.seq (Walk.region' rfl fun K hK => ?_)
  simp only [go_sem, seval]
  refine hK _ ?_
  clear hK K
  refine Walk.seq (Walk.condO rfl hx (fun c48 hx => ?_) (fun c48 hx => ?_))
  · refine Walk.skip (Walk.seq (Walk.block (Walk.seq (Walk.region' rfl fun K hK => ?_))))
    simp only [go_sem, seval, c48]
    refine hK _ ?_
    clear hK K
    refine Walk.seq (Walk.region' rfl fun K hK => ?_)
    obtain ⟨v15, r49, a50, b51, c52, hx⟩ := rd_elim hx
    obtain ⟨v16, h53, hx⟩ := bind_elim hx
    simp only [go_sem, seval, c48, a50, b51, c52]
    repeat refine And.intro (by first | omega | (simp; done) | (simp; omega)) ?_
    refine VCl.pure rfl (by simp only [go_sem, seval, c48, a50, b51, c52]; try simp) (blueprint_Rows_1_ok v15.ID v15.Version v15.Stem v15.Parts v15.Enemies _ h53) (by simp only [go_sem, seval, c48, a50, b51, c52]; try simp) (by simp only [go_sem, seval, c48, a50, b51, c52]; try simp) (by simp only [go_sem, seval, c48, a50, b51, c52]; try simp) (by simp only [go_sem, seval, c48, a50, b51, c52]; try simp) (by simp only [go_sem, seval, c48, a50, b51, c52]; try simp) (by simp only [go_sem, seval, c48, a50, b51, c52]; try simp) ?_
    simp only [go_sem, seval, c48, a50, b51, c52]
    refine hK _ ?_
    clear hK K
    refine Walk.condO rfl hx (fun c54 hx => ?_) (fun c54 hx => ?_)
    · refine Walk.seq (Walk.region' rfl fun K hK => ?_)
      simp only [go_sem, seval, c48, a50, b51, c52, c54]
      refine hK _ ?_
      clear hK K
      obtain ⟨z55, e56, hx⟩ := exit_elim hx
      rw [hr46 z55 e56] at hx
      obtain rfl := Option.some.inj hx
      exact Walk.ret ⟨by simp [c48, a50, b51, c52, c54], by simp [c48, a50, b51, c52, c54]⟩
    refine Walk.skip (Walk.inBlock (Walk.region' rfl fun K hK => ?_))
    simp only [go_sem, seval, c48, a50, b51, c52, c54]
    refine hK _ ?_
    clear hK K
    exact Walk.weaken _ (by simp [c48, a50, b51, c52, c54] <;> omega) (by simp [c48, a50, b51, c52, c54] <;> omega) (ih45 _ (cont_elim hx))
  refine Walk.exit rfl ?_
  obtain ⟨z57, e58, hx⟩ := exit_elim hx
  rw [hr46 z57 e58] at hx
  refine Walk.seq (Walk.region' rfl fun K hK => ?_)
  simp only [go_sem, seval, c48]
  refine hK _ ?_
  clear hK K
  obtain rfl := Option.some.inj hx
  exact Walk.ret ⟨by simp [c48], by simp [c48]⟩
end Go.AX

