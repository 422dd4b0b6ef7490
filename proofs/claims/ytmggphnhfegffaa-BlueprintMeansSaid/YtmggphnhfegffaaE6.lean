import Derived.Test.YtmggphnhfegffaaE5
set_option linter.unusedVariables false
set_option linter.unusedSimpArgs false
set_option maxRecDepth 20000
set_option maxHeartbeats 4000000
namespace Go.AX
open Go.Proofs
attribute [local simp] take_map_len subE subH eget hget upE upV upH upO_refl upO_box upVs freshE freshH freshO AV.ids AV.idsL ids_box ids_arr frE frV_refl frV_arr frH frO_refl frO_box frVs newOk evalA AV.viewXs AV.viewX AV.viewXP AV.viewXPs AV.viewPs AV.viewP AV.flat AV.flatL D.flat arrsOnly flatObjs newNames subOf closedIn allSome dstOk newOrOld avD avDp zv_i64 zv_u8 zv_bool zv_nils zv_nilp zv_str retAV aLoad cut TI.isAgg nlE nlH nlO_refl nlO_box nlVs nlV_refl nlV_nil iD uD bD tD lD List.map_set ti2 ti3 ti4 ti5 ti6 ti7 ti8 ti9 ti10 ti11 ti12 ti13 ti14 ti15 ti16 ti17 ti18 ti19 ti21 ti22 ti23 ti25 ti26 ti27 ti31 ti32 ti41 ti51 ti52 ti53 ti54 ti56 ti58 ti60 ti61 ti62 ti67 ti68 ti71 ti72 ti79 ti80 ti81 ti82 ti83 ti84 ti85 ti89 ti93 ti94 ti95 ti110 ti124 ti125 ti126 ti127 ti128 ti129 ti130 ti131 ti133 ti134 ti135 ti136 ti137 Row.D TRange.D Ref.D Form.D Part.D TItem.D
attribute [local go_sem] V1_none V1_some V_nil V_move V_assign V_pick V_bin V_un V_extract V_makeFunc V_convert V_nilCheck V_fieldAddr V_field V_load V_store V_indexAddr V_index V_slice V_slice0 V_alloc V_box V_build V_buildSlice V_makeSlice V_len V_min V_max V_append V_call V_guard VGs_some VG_tt VG_ff VG_tf VG_ft VG_u gslot ok fail po so aNew dstOk freshU addLog_none' addLog_some' St.step putL evalA eget hget argE freshE freshO freshH AV.ids AV.idsL AV.ok1 AV.cells ids_box ids_arr liveBox liveArr isArr aPick aBin aUn aExtract aMakeFunc aConvert aNilCheck aFieldAddr aField cut aLen aIndexAddr aMin aMax aIndex bnd isInt aSlice aSlice0 aLoad aAlloc aBox aStore splice aMake updIds newIds zv_i64 zv_u8 zv_bool zv_nils zv_nilp cond_bool cond_int TI.isAgg TK.isSl TK.el okL avDps avDp avD List.map_cons List.map_nil List.append_nil List.nil_append List.cons_append List.length_cons List.length_nil List.take_succ_cons List.take_zero List.drop_succ_cons List.drop_zero List.take_nil List.drop_nil List.headD_cons List.getD_cons_zero List.getD_cons_succ List.mem_cons List.not_mem_nil List.getElem?_cons_zero List.getElem?_cons_succ List.toList_toArray Option.getD_some Option.getD_none Option.bind_some Option.bind_none Option.map_some Option.map_none Option.getD Option.toList Nat.zero_add Nat.add_zero Nat.zero_le Nat.le_refl if_true if_false ite_self true_and and_true false_and and_false true_or or_true false_or or_false not_true_eq_false not_false_eq_true ne_eq cond_true cond_false Bool.true_eq_false Bool.false_eq_true forall_const decide_true decide_false implies_true true_implies and_self or_self Nat.succ_ne_zero Int.toNat_natCast Int.natCast_nonneg List.length_map decide_eq_true_eq AV.views AV.view AV.viewPs AV.viewP arrsOnly newNames List.length_append List.append_assoc Bool.not_true Bool.not_false AV.ok2 aBuild fillR fillP aBuildSlice dense elP aAppend esOf esOfP List.forall_mem_cons forall_eq_or_imp forall_eq zD zDp map_take' map_drop' iD uD bD tD lD iD_len uD_len bD_len tD_len lD_len LB Int.cast_ofNat_Int Int.natCast_zero Int.natCast_one head_len all_len List.head?_cons List.head?_nil Bool.not_not eq_self List.take_length zv_str aConv byteOf isByte map_bcell bytes_all str_map cellsEq cellsP AV.kd Bool.and_true Bool.true_and Bool.and_false Bool.false_and ti2 ti3 ti4 ti5 ti6 ti7 ti8 ti9 ti10 ti11 ti12 ti13 ti14 ti15 ti16 ti17 ti18 ti19 ti21 ti22 ti23 ti25 ti26 ti27 ti31 ti32 ti41 ti51 ti52 ti53 ti54 ti56 ti58 ti60 ti61 ti62 ti67 ti68 ti71 ti72 ti79 ti80 ti81 ti82 ti83 ti84 ti85 ti89 ti93 ti94 ti95 ti110 ti124 ti125 ti126 ti127 ti128 ti129 ti130 ti131 ti133 ti134 ti135 ti136 ti137 Row.D TRange.D Ref.D Form.D Part.D TItem.D Row.D_len TRange.D_len Ref.D_len Form.D_len Part.D_len TItem.D_len zs_ zs_48_49_50_51_52_53_54_55_56_57_48_49_50_51_52_53_54_55_56_57_48_49_50_51_52_53_54_55_56_57_48_49_50_51_52_53_54_55_56_57_120 zs_113 zs_116_97_98_9 eqf85_00
noncomputable def mk_Tape_Part_j0 (v3 : Int) (v1 : List Int) (v32 : Int × Int) (v33 : Int × Int) (v38 : Int) (v39 : Int) (v40 : Int) (v41 : Int) (v42 : Int) : Option (Int × Int × Int × Int × Int × Int × Int) :=
  bif decide (v3 > 0) then ((mk_Tape_One v1 v38 v3).bind fun v43 => bif v43.1 then ((mk_Tape_Next v1 v43.2 6).bind fun v44 => bif decide (v44.1 = 0) then ((mk_Tape_Range v1 v44.2 (-1) 3).bind fun v45 => some ((v45.2, v45.1, v40, v32.1, v33.1, v41, v42) : Int × Int × Int × Int × Int × Int × Int)) else (bif decide (v44.1 = 1) then ((mk_Tape_Pick v1 v44.2 [0, 40, 41, -1]).bind fun v46 => some ((v46.2, v39, v46.1, v32.1, v33.1, v41, v42) : Int × Int × Int × Int × Int × Int × Int)) else (bif decide (v44.1 = 2) then ((mk_Tape_Wild v1 v44.2).bind fun v47 => some ((v47.2, v39, v40, v47.1, v33.1, v41, v42) : Int × Int × Int × Int × Int × Int × Int)) else (bif decide (v44.1 = 3) then ((mk_Tape_Wild v1 v44.2).bind fun v48 => some ((v48.2, v39, v40, v32.1, v48.1, v41, v42) : Int × Int × Int × Int × Int × Int × Int)) else (bif decide (v44.1 = 4) then ((mk_Tape_Range v1 v44.2 (-1) 6).bind fun v49 => some ((v49.2, v39, v40, v32.1, v33.1, v49.1, v42) : Int × Int × Int × Int × Int × Int × Int)) else ((mk_Tape_Range v1 v44.2 (-1) 5).bind fun v50 => some ((v50.2, v39, v40, v32.1, v33.1, v41, v50.1) : Int × Int × Int × Int × Int × Int × Int))))))) else (some ((v43.2, v39, v40, v32.1, v33.1, v41, v42) : Int × Int × Int × Int × Int × Int × Int))) else (some ((v38, v39, v40, v32.1, v33.1, v41, v42) : Int × Int × Int × Int × Int × Int × Int))
noncomputable def mk_Tape_Part (v1 : List Int) (v2 : Int) (v3 : Int) : Option (Int × Int × Int × Int × Int × Int × Int) :=
  (mk_Tape_Range v1 v2 1 12).bind fun v31 => (mk_Tape_Next v1 v31.2 4).bind fun v32 => (mk_Tape_Next v1 v32.2 3).bind fun v33 => (mk_Tape_Next v1 v33.2 3).bind fun v51 => bif decide (v51.1 = 0) then ((mk_Tape_Range v1 v51.2 2 5).bind fun v52 => (mk_Tape_Next v1 v52.2 v52.1).bind fun v53 => (mk_Tape_Range v1 v53.2 1 3).bind fun v54 => mk_Tape_Part_j0 v3 v1 v32 v33 v54.2 2 v54.1 v52.1 v53.1) else (mk_Tape_Part_j0 v3 v1 v32 v33 v51.2 1 v31.1 0 0)
theorem mk_Tape_Part_ok (v1 : List Int) (v2 : Int) (v3 : Int) (r : Int × Int × Int × Int × Int × Int × Int) (hx : mk_Tape_Part v1 v2 v3 = some r) :
    ACalls Try.prog 61 [.box 0 0, .d (.int .i64 v3)] [(0, some (.box [.d (.sl (List.map iD v1)), .d (.int .i64 v2)]))] (.agg [.d (.int .i64 r.2.1), .d (.int .i64 r.2.2.1), .d (.int .i64 r.2.2.2.1), .d (.int .i64 r.2.2.2.2.1), .d (.int .i64 r.2.2.2.2.2.1), .d (.int .i64 r.2.2.2.2.2.2)]) [(0, some (.box [.d (.sl (List.map iD v1)), .d (.int .i64 r.1)]))] := by
  refine ACalls.of_cellS (n := 67) 1 4 68 (fn := Try.f61) Try.func61 rfl rfl rfl rfl (by simp) (by intro i; simp only [hget]; (repeat' split) <;> simp <;> omega) ?_
  unfold mk_Tape_Part at hx
  refine Walk.seq (Walk.region' rfl fun K hK => ?_)
  simp only [go_sem, seval]
  refine hK _ ?_
  clear hK K
  refine Walk.seq (Walk.region' rfl fun K hK => ?_)
  obtain ⟨v31, h24, hx⟩ := bind_elim hx
  simp only [go_sem, seval]
  refine VCl.sub [(0, some (.box [.d (.sl (List.map iD v1)), .d (.int .i64 v2)]))] [] rfl (by simp only [go_sem, seval, AV.viewXs, AV.viewX, avD]; try simp) (mk_Tape_Range_ok v1 v2 1 12 _ h24) (by simp) (by simp) (by simp) (by simp) (by simp) (by simp) (by simp) (by simp) (by simp) (by simp) ?_
  obtain ⟨v32, h25, hx⟩ := bind_elim hx
  simp only [go_sem, seval]
  refine VCl.sub [(0, some (.box [.d (.sl (List.map iD v1)), .d (.int .i64 v31.2)]))] [] rfl (by simp only [go_sem, seval, AV.viewXs, AV.viewX, avD]; try simp) (mk_Tape_Next_ok v1 v31.2 4 _ h25) (by simp) (by simp) (by simp) (by simp) (by simp) (by simp) (by simp) (by simp) (by simp) (by simp) ?_
  obtain ⟨v33, h26, hx⟩ := bind_elim hx
  simp only [go_sem, seval]
  refine VCl.sub [(0, some (.box [.d (.sl (List.map iD v1)), .d (.int .i64 v32.2)]))] [] rfl (by simp only [go_sem, seval, AV.viewXs, AV.viewX, avD]; try simp) (mk_Tape_Next_ok v1 v32.2 3 _ h26) (by simp) (by simp) (by simp) (by simp) (by simp) (by simp) (by simp) (by simp) (by simp) (by simp) ?_
  simp only [go_sem, seval]
  refine hK _ ?_
  clear hK K
  refine Walk.weaken ⟨[(0, .box 0 0), (1, .d (.int .i64 v3)), (4, .box 5 0), (5, .box 6 0)], [(0, some (.box [.d (.sl (List.map iD v1)), .d (.int .i64 v33.2)])), (5, some (.box [.d (.int .i64 0), .d (.int .i64 0), .d (.int .i64 0), .d (.int .i64 0), .d (.int .i64 0), .d (.int .i64 0)])), (6, some (.box [.d (.int .i64 1), .d (.int .i64 v31.1), .d (.int .i64 v32.1), .d (.int .i64 v33.1), .d (.int .i64 0), .d (.int .i64 0)]))]⟩ (by simp <;> omega) (by simp <;> omega) ?_
  refine Walk.seq (Walk.join (G := Int × Int × Int × Int × Int) (fun g => ⟨[(0, .box 0 0), (1, .d (.int .i64 v3)), (4, .box 5 0), (5, .box 6 0)], [(0, some (.box [.d (.sl (List.map iD v1)), .d (.int .i64 g.1)])), (5, some (.box [.d (.int .i64 0), .d (.int .i64 0), .d (.int .i64 0), .d (.int .i64 0), .d (.int .i64 0), .d (.int .i64 0)])), (6, some (.box [.d (.int .i64 g.2.1), .d (.int .i64 g.2.2.1), .d (.int .i64 v32.1), .d (.int .i64 v33.1), .d (.int .i64 g.2.2.2.1), .d (.int .i64 g.2.2.2.2)]))]⟩) (fun g => mk_Tape_Part_j0 v3 v1 v32 v33 g.1 g.2.1 g.2.2.1 g.2.2.2.1 g.2.2.2.2) hx (fun g hx => ?_) (fun fin32 => ?_))
  · obtain ⟨v38, v39, v40, v41, v42⟩ := g
    unfold mk_Tape_Part_j0 at hx
    try dsimp only at hx ⊢
    refine Walk.seq (Walk.seq (Walk.region' rfl fun K hK => ?_))
    simp only [go_sem, seval]
    refine VGdO hx (fun g33 hx => ?_) (fun g33 hx => ?_)
    · obtain ⟨v43, h34, hx⟩ := bind_elim hx
      simp only [go_sem, seval, g33]
      refine VCl.sub [(0, some (.box [.d (.sl (List.map iD v1)), .d (.int .i64 v38)]))] [] rfl (by simp only [go_sem, seval, AV.viewXs, AV.viewX, avD, g33]; try simp) (mk_Tape_One_ok v1 v38 v3 _ h34) (by simp [g33]) (by simp [g33]) (by simp [g33]) (by simp [g33]) (by simp [g33]) (by simp [g33]) (by simp [g33]) (by simp [g33]) (by simp [g33]) (by simp [g33]) ?_
      simp only [go_sem, seval, g33]
      refine hK _ ?_
      clear hK K
      refine Walk.weaken ⟨[(0, .box 0 0), (4, .box 5 0), (5, .box 6 0), (34, .d (.bool v43.1))], [(0, some (.box [.d (.sl (List.map iD v1)), .d (.int .i64 v43.2)])), (5, some (.box [.d (.int .i64 0), .d (.int .i64 0), .d (.int .i64 0), .d (.int .i64 0), .d (.int .i64 0), .d (.int .i64 0)])), (6, some (.box [.d (.int .i64 v39), .d (.int .i64 v40), .d (.int .i64 v32.1), .d (.int .i64 v33.1), .d (.int .i64 v41), .d (.int .i64 v42)]))]⟩ (by simp [g33] <;> omega) (by simp [g33] <;> omega) ?_
      refine Walk.condO rfl hx (fun c35 hx => ?_) (fun c35 hx => ?_)
      · refine Walk.seq (Walk.region' rfl fun K hK => ?_)
        obtain ⟨v44, h36, hx⟩ := bind_elim hx
        simp only [go_sem, seval, g33, c35]
        refine VCl.sub [(0, some (.box [.d (.sl (List.map iD v1)), .d (.int .i64 v43.2)]))] [] rfl (by simp only [go_sem, seval, AV.viewXs, AV.viewX, avD, g33, c35]; try simp) (mk_Tape_Next_ok v1 v43.2 6 _ h36) (by simp [g33, c35]) (by simp [g33, c35]) (by simp [g33, c35]) (by simp [g33, c35]) (by simp [g33, c35]) (by simp [g33, c35]) (by simp [g33, c35]) (by simp [g33, c35]) (by simp [g33, c35]) (by simp [g33, c35]) ?_
        simp only [go_sem, seval, g33, c35]
        refine hK _ ?_
        clear hK K
        refine Walk.weaken ⟨[(0, .box 0 0), (4, .box 5 0), (5, .box 6 0), (36, .d (.int .i64 v44.1))], [(0, some (.box [.d (.sl (List.map iD v1)), .d (.int .i64 v44.2)])), (5, some (.box [.d (.int .i64 0), .d (.int .i64 0), .d (.int .i64 0), .d (.int .i64 0), .d (.int .i64 0), .d (.int .i64 0)])), (6, some (.box [.d (.int .i64 v39), .d (.int .i64 v40), .d (.int .i64 v32.1), .d (.int .i64 v33.1), .d (.int .i64 v41), .d (.int .i64 v42)]))]⟩ (by simp [g33, c35] <;> omega) (by simp [g33, c35] <;> omega) ?_
        refine Walk.block (Walk.seq (Walk.region' rfl fun K hK => ?_))
        simp only [go_sem, seval, g33, c35]
        refine hK _ ?_
        clear hK K
        refine Walk.condO rfl hx (fun c37 hx => ?_) (fun c37 hx => ?_)
        · refine Walk.region' rfl fun K hK => ?_
          obtain ⟨v45, h38, hx⟩ := bind_elim hx
          simp only [go_sem, seval, g33, c35, c37]
          refine VCl.sub [(0, some (.box [.d (.sl (List.map iD v1)), .d (.int .i64 v44.2)]))] [] rfl (by simp only [go_sem, seval, AV.viewXs, AV.viewX, avD, g33, c35, c37]; try simp) (mk_Tape_Range_ok v1 v44.2 (-1) 3 _ h38) (by simp [g33, c35, c37]) (by simp [g33, c35, c37]) (by simp [g33, c35, c37]) (by simp [g33, c35, c37]) (by simp [g33, c35, c37]) (by simp [g33, c35, c37]) (by simp [g33, c35, c37]) (by simp [g33, c35, c37]) (by simp [g33, c35, c37]) (by simp [g33, c35, c37]) ?_
          simp only [go_sem, seval, g33, c35, c37]
          refine hK _ ?_
          clear hK K
          refine Walk.weaken ⟨[(4, .box 5 0), (5, .box 6 0)], [(0, some (.box [.d (.sl (List.map iD v1)), .d (.int .i64 v45.2)])), (5, some (.box [.d (.int .i64 0), .d (.int .i64 0), .d (.int .i64 0), .d (.int .i64 0), .d (.int .i64 0), .d (.int .i64 0)])), (6, some (.box [.d (.int .i64 v45.1), .d (.int .i64 v40), .d (.int .i64 v32.1), .d (.int .i64 v33.1), .d (.int .i64 v41), .d (.int .i64 v42)]))]⟩ (by simp [g33, c35, c37] <;> omega) (by simp [g33, c35, c37] <;> omega) ?_
          refine Walk.inBlock (Walk.seq (Walk.region' rfl fun K hK => ?_))
          simp only [go_sem, seval, g33, c35, c37]
          refine hK _ ?_
          clear hK K
          refine Walk.weaken ⟨[(4, .box 5 0)], [(0, some (.box [.d (.sl (List.map iD v1)), .d (.int .i64 v45.2)])), (5, some (.box [.d (.int .i64 v45.1), .d (.int .i64 v40), .d (.int .i64 v32.1), .d (.int .i64 v33.1), .d (.int .i64 v41), .d (.int .i64 v42)]))]⟩ (by simp [g33, c35, c37] <;> omega) (by simp [g33, c35, c37] <;> omega) ?_
          refine Walk.rename 5 2000 (by omega) (by omega) (by simp) (by simp) ?_
          simp only [renE, renL, AV.ren, AV.rens, AObj.ren, swp, Option.map_some, reduceIte, Nat.reduceEqDiff]
          obtain rfl := Option.some.inj hx
          exact Walk.ret ⟨2000, 0, by simp, by simp, by simp [g33, c35, c37], by simp [g33, c35, c37]⟩
        refine Walk.seq (Walk.region' rfl fun K hK => ?_)
        simp only [go_sem, seval, g33, c35, c37]
        refine hK _ ?_
        clear hK K
        refine Walk.condO rfl hx (fun c39 hx => ?_) (fun c39 hx => ?_)
        · refine Walk.region' rfl fun K hK => ?_
          obtain ⟨v46, h40, hx⟩ := bind_elim hx
          simp only [go_sem, seval, g33, c35, c37, c39]
          refine VCl.sub [(0, some (.box [.d (.sl (List.map iD v1)), .d (.int .i64 v44.2)]))] [49] rfl (by simp only [go_sem, seval, AV.viewXs, AV.viewX, avD, g33, c35, c37, c39]; try simp) (mk_Tape_Pick_ok v1 v44.2 [0, 40, 41, -1] _ h40) (by simp [g33, c35, c37, c39]) (by simp [g33, c35, c37, c39]) (by simp [g33, c35, c37, c39]) (by simp [g33, c35, c37, c39]) (by simp [g33, c35, c37, c39]) (by simp [g33, c35, c37, c39]) (by simp [g33, c35, c37, c39]) (by simp [g33, c35, c37, c39]) (by simp [g33, c35, c37, c39]) (by simp [g33, c35, c37, c39]) ?_
          simp only [go_sem, seval, g33, c35, c37, c39]
          refine hK _ ?_
          clear hK K
          refine Walk.weaken ⟨[(4, .box 5 0), (5, .box 6 0)], [(0, some (.box [.d (.sl (List.map iD v1)), .d (.int .i64 v46.2)])), (5, some (.box [.d (.int .i64 0), .d (.int .i64 0), .d (.int .i64 0), .d (.int .i64 0), .d (.int .i64 0), .d (.int .i64 0)])), (6, some (.box [.d (.int .i64 v39), .d (.int .i64 v46.1), .d (.int .i64 v32.1), .d (.int .i64 v33.1), .d (.int .i64 v41), .d (.int .i64 v42)]))]⟩ (by simp [g33, c35, c37, c39] <;> omega) (by simp [g33, c35, c37, c39] <;> omega) ?_
          refine Walk.inBlock (Walk.seq (Walk.region' rfl fun K hK => ?_))
          simp only [go_sem, seval, g33, c35, c37, c39]
          refine hK _ ?_
          clear hK K
          refine Walk.weaken ⟨[(4, .box 5 0)], [(0, some (.box [.d (.sl (List.map iD v1)), .d (.int .i64 v46.2)])), (5, some (.box [.d (.int .i64 v39), .d (.int .i64 v46.1), .d (.int .i64 v32.1), .d (.int .i64 v33.1), .d (.int .i64 v41), .d (.int .i64 v42)]))]⟩ (by simp [g33, c35, c37, c39] <;> omega) (by simp [g33, c35, c37, c39] <;> omega) ?_
          refine Walk.rename 5 2000 (by omega) (by omega) (by simp) (by simp) ?_
          simp only [renE, renL, AV.ren, AV.rens, AObj.ren, swp, Option.map_some, reduceIte, Nat.reduceEqDiff]
          obtain rfl := Option.some.inj hx
          exact Walk.ret ⟨2000, 0, by simp, by simp, by simp [g33, c35, c37, c39], by simp [g33, c35, c37, c39]⟩
        refine Walk.seq (Walk.region' rfl fun K hK => ?_)
        simp only [go_sem, seval, g33, c35, c37, c39]
        refine hK _ ?_
        clear hK K
        refine Walk.condO rfl hx (fun c41 hx => ?_) (fun c41 hx => ?_)
        · refine Walk.region' rfl fun K hK => ?_
          obtain ⟨v47, h42, hx⟩ := bind_elim hx
          simp only [go_sem, seval, g33, c35, c37, c39, c41]
          refine VCl.sub [(0, some (.box [.d (.sl (List.map iD v1)), .d (.int .i64 v44.2)]))] [] rfl (by simp only [go_sem, seval, AV.viewXs, AV.viewX, avD, g33, c35, c37, c39, c41]; try simp) (mk_Tape_Wild_ok v1 v44.2 _ h42) (by simp [g33, c35, c37, c39, c41]) (by simp [g33, c35, c37, c39, c41]) (by simp [g33, c35, c37, c39, c41]) (by simp [g33, c35, c37, c39, c41]) (by simp [g33, c35, c37, c39, c41]) (by simp [g33, c35, c37, c39, c41]) (by simp [g33, c35, c37, c39, c41]) (by simp [g33, c35, c37, c39, c41]) (by simp [g33, c35, c37, c39, c41]) (by simp [g33, c35, c37, c39, c41]) ?_
          simp only [go_sem, seval, g33, c35, c37, c39, c41]
          refine hK _ ?_
          clear hK K
          refine Walk.weaken ⟨[(4, .box 5 0), (5, .box 6 0)], [(0, some (.box [.d (.sl (List.map iD v1)), .d (.int .i64 v47.2)])), (5, some (.box [.d (.int .i64 0), .d (.int .i64 0), .d (.int .i64 0), .d (.int .i64 0), .d (.int .i64 0), .d (.int .i64 0)])), (6, some (.box [.d (.int .i64 v39), .d (.int .i64 v40), .d (.int .i64 v47.1), .d (.int .i64 v33.1), .d (.int .i64 v41), .d (.int .i64 v42)]))]⟩ (by simp [g33, c35, c37, c39, c41] <;> omega) (by simp [g33, c35, c37, c39, c41] <;> omega) ?_
          refine Walk.inBlock (Walk.seq (Walk.region' rfl fun K hK => ?_))
          simp only [go_sem, seval, g33, c35, c37, c39, c41]
          refine hK _ ?_
          clear hK K
          refine Walk.weaken ⟨[(4, .box 5 0)], [(0, some (.box [.d (.sl (List.map iD v1)), .d (.int .i64 v47.2)])), (5, some (.box [.d (.int .i64 v39), .d (.int .i64 v40), .d (.int .i64 v47.1), .d (.int .i64 v33.1), .d (.int .i64 v41), .d (.int .i64 v42)]))]⟩ (by simp [g33, c35, c37, c39, c41] <;> omega) (by simp [g33, c35, c37, c39, c41] <;> omega) ?_
          refine Walk.rename 5 2000 (by omega) (by omega) (by simp) (by simp) ?_
          simp only [renE, renL, AV.ren, AV.rens, AObj.ren, swp, Option.map_some, reduceIte, Nat.reduceEqDiff]
          obtain rfl := Option.some.inj hx
          exact Walk.ret ⟨2000, 0, by simp, by simp, by simp [g33, c35, c37, c39, c41], by simp [g33, c35, c37, c39, c41]⟩
        refine Walk.seq (Walk.region' rfl fun K hK => ?_)
        simp only [go_sem, seval, g33, c35, c37, c39, c41]
        refine hK _ ?_
        clear hK K
        refine Walk.condO rfl hx (fun c43 hx => ?_) (fun c43 hx => ?_)
        · refine Walk.region' rfl fun K hK => ?_
          obtain ⟨v48, h44, hx⟩ := bind_elim hx
          simp only [go_sem, seval, g33, c35, c37, c39, c41, c43]
          refine VCl.sub [(0, some (.box [.d (.sl (List.map iD v1)), .d (.int .i64 v44.2)]))] [] rfl (by simp only [go_sem, seval, AV.viewXs, AV.viewX, avD, g33, c35, c37, c39, c41, c43]; try simp) (mk_Tape_Wild_ok v1 v44.2 _ h44) (by simp [g33, c35, c37, c39, c41, c43]) (by simp [g33, c35, c37, c39, c41, c43]) (by simp [g33, c35, c37, c39, c41, c43]) (by simp [g33, c35, c37, c39, c41, c43]) (by simp [g33, c35, c37, c39, c41, c43]) (by simp [g33, c35, c37, c39, c41, c43]) (by simp [g33, c35, c37, c39, c41, c43]) (by simp [g33, c35, c37, c39, c41, c43]) (by simp [g33, c35, c37, c39, c41, c43]) (by simp [g33, c35, c37, c39, c41, c43]) ?_
          simp only [go_sem, seval, g33, c35, c37, c39, c41, c43]
          refine hK _ ?_
          clear hK K
          refine Walk.weaken ⟨[(4, .box 5 0), (5, .box 6 0)], [(0, some (.box [.d (.sl (List.map iD v1)), .d (.int .i64 v48.2)])), (5, some (.box [.d (.int .i64 0), .d (.int .i64 0), .d (.int .i64 0), .d (.int .i64 0), .d (.int .i64 0), .d (.int .i64 0)])), (6, some (.box [.d (.int .i64 v39), .d (.int .i64 v40), .d (.int .i64 v32.1), .d (.int .i64 v48.1), .d (.int .i64 v41), .d (.int .i64 v42)]))]⟩ (by simp [g33, c35, c37, c39, c41, c43] <;> omega) (by simp [g33, c35, c37, c39, c41, c43] <;> omega) ?_
          refine Walk.inBlock (Walk.seq (Walk.region' rfl fun K hK => ?_))
          simp only [go_sem, seval, g33, c35, c37, c39, c41, c43]
          refine hK _ ?_
          clear hK K
          refine Walk.weaken ⟨[(4, .box 5 0)], [(0, some (.box [.d (.sl (List.map iD v1)), .d (.int .i64 v48.2)])), (5, some (.box [.d (.int .i64 v39), .d (.int .i64 v40), .d (.int .i64 v32.1), .d (.int .i64 v48.1), .d (.int .i64 v41), .d (.int .i64 v42)]))]⟩ (by simp [g33, c35, c37, c39, c41, c43] <;> omega) (by simp [g33, c35, c37, c39, c41, c43] <;> omega) ?_
          refine Walk.rename 5 2000 (by omega) (by omega) (by simp) (by simp) ?_
          simp only [renE, renL, AV.ren, AV.rens, AObj.ren, swp, Option.map_some, reduceIte, Nat.reduceEqDiff]
          obtain rfl := Option.some.inj hx
          exact Walk.ret ⟨2000, 0, by simp, by simp, by simp [g33, c35, c37, c39, c41, c43], by simp [g33, c35, c37, c39, c41, c43]⟩
        refine Walk.seq (Walk.region' rfl fun K hK => ?_)
        simp only [go_sem, seval, g33, c35, c37, c39, c41, c43]
        refine hK _ ?_
        clear hK K
        refine Walk.condO rfl hx (fun c45 hx => ?_) (fun c45 hx => ?_)
        · refine Walk.region' rfl fun K hK => ?_
          obtain ⟨v49, h46, hx⟩ := bind_elim hx
          simp only [go_sem, seval, g33, c35, c37, c39, c41, c43, c45]
          refine VCl.sub [(0, some (.box [.d (.sl (List.map iD v1)), .d (.int .i64 v44.2)]))] [] rfl (by simp only [go_sem, seval, AV.viewXs, AV.viewX, avD, g33, c35, c37, c39, c41, c43, c45]; try simp) (mk_Tape_Range_ok v1 v44.2 (-1) 6 _ h46) (by simp [g33, c35, c37, c39, c41, c43, c45]) (by simp [g33, c35, c37, c39, c41, c43, c45]) (by simp [g33, c35, c37, c39, c41, c43, c45]) (by simp [g33, c35, c37, c39, c41, c43, c45]) (by simp [g33, c35, c37, c39, c41, c43, c45]) (by simp [g33, c35, c37, c39, c41, c43, c45]) (by simp [g33, c35, c37, c39, c41, c43, c45]) (by simp [g33, c35, c37, c39, c41, c43, c45]) (by simp [g33, c35, c37, c39, c41, c43, c45]) (by simp [g33, c35, c37, c39, c41, c43, c45]) ?_
          simp only [go_sem, seval, g33, c35, c37, c39, c41, c43, c45]
          refine hK _ ?_
          clear hK K
          refine Walk.weaken ⟨[(4, .box 5 0), (5, .box 6 0)], [(0, some (.box [.d (.sl (List.map iD v1)), .d (.int .i64 v49.2)])), (5, some (.box [.d (.int .i64 0), .d (.int .i64 0), .d (.int .i64 0), .d (.int .i64 0), .d (.int .i64 0), .d (.int .i64 0)])), (6, some (.box [.d (.int .i64 v39), .d (.int .i64 v40), .d (.int .i64 v32.1), .d (.int .i64 v33.1), .d (.int .i64 v49.1), .d (.int .i64 v42)]))]⟩ (by simp [g33, c35, c37, c39, c41, c43, c45] <;> omega) (by simp [g33, c35, c37, c39, c41, c43, c45] <;> omega) ?_
          refine Walk.inBlock (Walk.seq (Walk.region' rfl fun K hK => ?_))
          simp only [go_sem, seval, g33, c35, c37, c39, c41, c43, c45]
          refine hK _ ?_
          clear hK K
          refine Walk.weaken ⟨[(4, .box 5 0)], [(0, some (.box [.d (.sl (List.map iD v1)), .d (.int .i64 v49.2)])), (5, some (.box [.d (.int .i64 v39), .d (.int .i64 v40), .d (.int .i64 v32.1), .d (.int .i64 v33.1), .d (.int .i64 v49.1), .d (.int .i64 v42)]))]⟩ (by simp [g33, c35, c37, c39, c41, c43, c45] <;> omega) (by simp [g33, c35, c37, c39, c41, c43, c45] <;> omega) ?_
          refine Walk.rename 5 2000 (by omega) (by omega) (by simp) (by simp) ?_
          simp only [renE, renL, AV.ren, AV.rens, AObj.ren, swp, Option.map_some, reduceIte, Nat.reduceEqDiff]
          obtain rfl := Option.some.inj hx
          exact Walk.ret ⟨2000, 0, by simp, by simp, by simp [g33, c35, c37, c39, c41, c43, c45], by simp [g33, c35, c37, c39, c41, c43, c45]⟩
        refine Walk.region' rfl fun K hK => ?_
        obtain ⟨v50, h47, hx⟩ := bind_elim hx
        simp only [go_sem, seval, g33, c35, c37, c39, c41, c43, c45]
        refine VCl.sub [(0, some (.box [.d (.sl (List.map iD v1)), .d (.int .i64 v44.2)]))] [] rfl (by simp only [go_sem, seval, AV.viewXs, AV.viewX, avD, g33, c35, c37, c39, c41, c43, c45]; try simp) (mk_Tape_Range_ok v1 v44.2 (-1) 5 _ h47) (by simp [g33, c35, c37, c39, c41, c43, c45]) (by simp [g33, c35, c37, c39, c41, c43, c45]) (by simp [g33, c35, c37, c39, c41, c43, c45]) (by simp [g33, c35, c37, c39, c41, c43, c45]) (by simp [g33, c35, c37, c39, c41, c43, c45]) (by simp [g33, c35, c37, c39, c41, c43, c45]) (by simp [g33, c35, c37, c39, c41, c43, c45]) (by simp [g33, c35, c37, c39, c41, c43, c45]) (by simp [g33, c35, c37, c39, c41, c43, c45]) (by simp [g33, c35, c37, c39, c41, c43, c45]) ?_
        simp only [go_sem, seval, g33, c35, c37, c39, c41, c43, c45]
        refine hK _ ?_
        clear hK K
        refine Walk.weaken ⟨[(4, .box 5 0), (5, .box 6 0)], [(0, some (.box [.d (.sl (List.map iD v1)), .d (.int .i64 v50.2)])), (5, some (.box [.d (.int .i64 0), .d (.int .i64 0), .d (.int .i64 0), .d (.int .i64 0), .d (.int .i64 0), .d (.int .i64 0)])), (6, some (.box [.d (.int .i64 v39), .d (.int .i64 v40), .d (.int .i64 v32.1), .d (.int .i64 v33.1), .d (.int .i64 v41), .d (.int .i64 v50.1)]))]⟩ (by simp [g33, c35, c37, c39, c41, c43, c45] <;> omega) (by simp [g33, c35, c37, c39, c41, c43, c45] <;> omega) ?_
        refine Walk.inBlock (Walk.seq (Walk.region' rfl fun K hK => ?_))
        simp only [go_sem, seval, g33, c35, c37, c39, c41, c43, c45]
        refine hK _ ?_
        clear hK K
        refine Walk.weaken ⟨[(4, .box 5 0)], [(0, some (.box [.d (.sl (List.map iD v1)), .d (.int .i64 v50.2)])), (5, some (.box [.d (.int .i64 v39), .d (.int .i64 v40), .d (.int .i64 v32.1), .d (.int .i64 v33.1), .d (.int .i64 v41), .d (.int .i64 v50.1)]))]⟩ (by simp [g33, c35, c37, c39, c41, c43, c45] <;> omega) (by simp [g33, c35, c37, c39, c41, c43, c45] <;> omega) ?_
        refine Walk.rename 5 2000 (by omega) (by omega) (by simp) (by simp) ?_
        simp only [renE, renL, AV.ren, AV.rens, AObj.ren, swp, Option.map_some, reduceIte, Nat.reduceEqDiff]
        obtain rfl := Option.some.inj hx
        exact Walk.ret ⟨2000, 0, by simp, by simp, by simp [g33, c35, c37, c39, c41, c43, c45], by simp [g33, c35, c37, c39, c41, c43, c45]⟩
      refine Walk.skip (Walk.seq (Walk.region' rfl fun K hK => ?_))
      simp only [go_sem, seval, g33, c35]
      refine hK _ ?_
      clear hK K
      refine Walk.weaken ⟨[(4, .box 5 0)], [(0, some (.box [.d (.sl (List.map iD v1)), .d (.int .i64 v43.2)])), (5, some (.box [.d (.int .i64 v39), .d (.int .i64 v40), .d (.int .i64 v32.1), .d (.int .i64 v33.1), .d (.int .i64 v41), .d (.int .i64 v42)]))]⟩ (by simp [g33, c35] <;> omega) (by simp [g33, c35] <;> omega) ?_
      refine Walk.rename 5 2000 (by omega) (by omega) (by simp) (by simp) ?_
      simp only [renE, renL, AV.ren, AV.rens, AObj.ren, swp, Option.map_some, reduceIte, Nat.reduceEqDiff]
      obtain rfl := Option.some.inj hx
      exact Walk.ret ⟨2000, 0, by simp, by simp, by simp [g33, c35], by simp [g33, c35]⟩
    simp only [go_sem, seval, g33]
    refine hK _ ?_
    clear hK K
    refine Walk.condF rfl (Walk.skip (Walk.seq (Walk.region' rfl fun K hK => ?_)))
    simp only [go_sem, seval, g33]
    refine hK _ ?_
    clear hK K
    refine Walk.weaken ⟨[(4, .box 5 0)], [(0, some (.box [.d (.sl (List.map iD v1)), .d (.int .i64 v38)])), (5, some (.box [.d (.int .i64 v39), .d (.int .i64 v40), .d (.int .i64 v32.1), .d (.int .i64 v33.1), .d (.int .i64 v41), .d (.int .i64 v42)]))]⟩ (by simp [g33] <;> omega) (by simp [g33] <;> omega) ?_
    refine Walk.rename 5 2000 (by omega) (by omega) (by simp) (by simp) ?_
    simp only [renE, renL, AV.ren, AV.rens, AObj.ren, swp, Option.map_some, reduceIte, Nat.reduceEqDiff]
    obtain rfl := Option.some.inj hx
    exact Walk.ret ⟨2000, 0, by simp, by simp, by simp [g33], by simp [g33]⟩
  refine Walk.seq (Walk.region' rfl fun K hK => ?_)
  obtain ⟨v51, h48, hx⟩ := bind_elim hx
  simp only [go_sem, seval]
  refine VCl.sub [(0, some (.box [.d (.sl (List.map iD v1)), .d (.int .i64 v33.2)]))] [] rfl (by simp only [go_sem, seval, AV.viewXs, AV.viewX, avD]; try simp) (mk_Tape_Next_ok v1 v33.2 3 _ h48) (by simp) (by simp) (by simp) (by simp) (by simp) (by simp) (by simp) (by simp) (by simp) (by simp) ?_
  simp only [go_sem, seval]
  refine hK _ ?_
  clear hK K
  refine Walk.weaken ⟨[(0, .box 0 0), (1, .d (.int .i64 v3)), (4, .box 5 0), (5, .box 6 0), (15, .d (.bool (decide (v51.1 = 0))))], [(0, some (.box [.d (.sl (List.map iD v1)), .d (.int .i64 v51.2)])), (5, some (.box [.d (.int .i64 0), .d (.int .i64 0), .d (.int .i64 0), .d (.int .i64 0), .d (.int .i64 0), .d (.int .i64 0)])), (6, some (.box [.d (.int .i64 1), .d (.int .i64 v31.1), .d (.int .i64 v32.1), .d (.int .i64 v33.1), .d (.int .i64 0), .d (.int .i64 0)]))]⟩ (by simp <;> omega) (by simp <;> omega) ?_
  refine Walk.condO rfl hx (fun c49 hx => ?_) (fun c49 hx => ?_)
  · refine Walk.seq (Walk.region' rfl fun K hK => ?_)
    obtain ⟨v52, h50, hx⟩ := bind_elim hx
    simp only [go_sem, seval, c49]
    refine VCl.sub [(0, some (.box [.d (.sl (List.map iD v1)), .d (.int .i64 v51.2)]))] [] rfl (by simp only [go_sem, seval, AV.viewXs, AV.viewX, avD, c49]; try simp) (mk_Tape_Range_ok v1 v51.2 2 5 _ h50) (by simp [c49]) (by simp [c49]) (by simp [c49]) (by simp [c49]) (by simp [c49]) (by simp [c49]) (by simp [c49]) (by simp [c49]) (by simp [c49]) (by simp [c49]) ?_
    simp only [go_sem, seval, c49]
    refine hK _ ?_
    clear hK K
    refine Walk.weaken ⟨[(0, .box 0 0), (1, .d (.int .i64 v3)), (4, .box 5 0), (5, .box 6 0)], [(0, some (.box [.d (.sl (List.map iD v1)), .d (.int .i64 v52.2)])), (5, some (.box [.d (.int .i64 0), .d (.int .i64 0), .d (.int .i64 0), .d (.int .i64 0), .d (.int .i64 0), .d (.int .i64 0)])), (6, some (.box [.d (.int .i64 2), .d (.int .i64 v31.1), .d (.int .i64 v32.1), .d (.int .i64 v33.1), .d (.int .i64 v52.1), .d (.int .i64 0)]))]⟩ (by simp [c49] <;> omega) (by simp [c49] <;> omega) ?_
    refine Walk.region' rfl fun K hK => ?_
    obtain ⟨v53, h51, hx⟩ := bind_elim hx
    simp only [go_sem, seval, c49]
    refine VCl.sub [(0, some (.box [.d (.sl (List.map iD v1)), .d (.int .i64 v52.2)]))] [] rfl (by simp only [go_sem, seval, AV.viewXs, AV.viewX, avD, c49]; try simp) (mk_Tape_Next_ok v1 v52.2 v52.1 _ h51) (by simp [c49]) (by simp [c49]) (by simp [c49]) (by simp [c49]) (by simp [c49]) (by simp [c49]) (by simp [c49]) (by simp [c49]) (by simp [c49]) (by simp [c49]) ?_
    obtain ⟨v54, h52, hx⟩ := bind_elim hx
    simp only [go_sem, seval, c49]
    refine VCl.sub [(0, some (.box [.d (.sl (List.map iD v1)), .d (.int .i64 v53.2)]))] [] rfl (by simp only [go_sem, seval, AV.viewXs, AV.viewX, avD, c49]; try simp) (mk_Tape_Range_ok v1 v53.2 1 3 _ h52) (by simp [c49]) (by simp [c49]) (by simp [c49]) (by simp [c49]) (by simp [c49]) (by simp [c49]) (by simp [c49]) (by simp [c49]) (by simp [c49]) (by simp [c49]) ?_
    simp only [go_sem, seval, c49]
    refine hK _ ?_
    clear hK K
    refine Walk.weaken ⟨[(0, .box 0 0), (1, .d (.int .i64 v3)), (4, .box 5 0), (5, .box 6 0)], [(0, some (.box [.d (.sl (List.map iD v1)), .d (.int .i64 v54.2)])), (5, some (.box [.d (.int .i64 0), .d (.int .i64 0), .d (.int .i64 0), .d (.int .i64 0), .d (.int .i64 0), .d (.int .i64 0)])), (6, some (.box [.d (.int .i64 2), .d (.int .i64 v54.1), .d (.int .i64 v32.1), .d (.int .i64 v33.1), .d (.int .i64 v52.1), .d (.int .i64 v53.1)]))]⟩ (by simp [c49] <;> omega) (by simp [c49] <;> omega) ?_
    exact Walk.weaken _ (by simp [c49] <;> omega) (by simp [c49] <;> omega) (fin32 (v54.2, 2, v54.1, v52.1, v53.1) hx)
  refine Walk.skip ?_
  exact Walk.weaken _ (by simp [c49] <;> omega) (by simp [c49] <;> omega) (fin32 (v51.2, 1, v31.1, 0, 0) hx)
noncomputable def mk_Tape_Item_l1 (v3 : Int) (v1 : List Int) (v5 : Int) (v4 : Int) (v60 : List UInt8 × Int) (v78 : List Part) (v94 : Int) (v95 : Int) (v96 : List Int) : Option ((Int × Int × List Int) ⊕ (Int × Int × Int × List UInt8 × List Int × List Part)) :=
  bif decide (v94 < 6) then (bif decide (¬ v94 = v3) then ((mk_Tape_One v1 v95 8).bind fun v98 => bif v98.1 then (chk ((v96.length + 1) * 8 ≤ 140737488355328) (contO ((IntKind.i64.wrap (v94 + 1), v98.2, (v96 ++ [v94])) : Int × Int × List Int))) else (contO ((IntKind.i64.wrap (v94 + 1), v98.2, v96) : Int × Int × List Int))) else (contO ((IntKind.i64.wrap (v94 + 1), v95, v96) : Int × Int × List Int))) else (exitO (bif decide (v5 > 0) then ((mk_Tape_One v1 v95 v5).bind fun v99 => bif v99.1 then ((mk_Tape_Next v1 v99.2 7).bind fun v100 => bif decide (v100.1 = 0) then ((mk_Tape_Wild v1 v100.2).bind fun v101 => some ((v101.2, v101.1, v4, ([113] ++ v60.1), v96, v78) : Int × Int × Int × List UInt8 × List Int × List Part)) else (bif decide (v100.1 = 1) then ((mk_Tape_Pick v1 v100.2 [0, 8, 9, -1]).bind fun v102 => some ((v102.2, v3, v102.1, ([113] ++ v60.1), v96, v78) : Int × Int × Int × List UInt8 × List Int × List Part)) else (bif decide (v100.1 = 2) then ((mk_Tape_Next v1 v100.2 3).bind fun v103 => (rd ([[], [116, 97, 98, 9], [48, 49, 50, 51, 52, 53, 54, 55, 56, 57, 48, 49, 50, 51, 52, 53, 54, 55, 56, 57, 48, 49, 50, 51, 52, 53, 54, 55, 56, 57, 48, 49, 50, 51, 52, 53, 54, 55, 56, 57, 120]]) v103.1).bind fun v104 => some ((v103.2, v3, v4, v104, v96, v78) : Int × Int × Int × List UInt8 × List Int × List Part)) else (bif decide (v100.1 = 3) then (some ((v100.2, v3, v4, ([113] ++ v60.1), v96, []) : Int × Int × Int × List UInt8 × List Int × List Part)) else (bif decide (v100.1 = 4) then ((mk_Tape_Part v1 v100.2 1).bind fun v105 => chk ((v78.length + 1) * 48 ≤ 140737488355328) (some ((v105.1, v3, v4, ([113] ++ v60.1), v96, (v78 ++ [(Part.mk v105.2.1 v105.2.2.1 v105.2.2.2.1 v105.2.2.2.2.1 v105.2.2.2.2.2.1 v105.2.2.2.2.2.2)])) : Int × Int × Int × List UInt8 × List Int × List Part))) else (bif decide (v100.1 = 5) then ((mk_Tape_Pick v1 v100.2 [0, v3, -1, 10000, 3]).bind fun v106 => chk ((v96.length + 1) * 8 ≤ 140737488355328) (some ((v106.2, v3, v4, ([113] ++ v60.1), (v96 ++ [v106.1]), v78) : Int × Int × Int × List UInt8 × List Int × List Part))) else ((rd v78 0).bind fun v107 => chk ((v78.length + 6) * 48 ≤ 140737488355328) (some ((v100.2, v3, v4, ([113] ++ v60.1), v96, (v78 ++ [v107, v107, v107, v107, v107, v107])) : Int × Int × Int × List UInt8 × List Int × List Part))))))))) else (some ((v99.2, v3, v4, ([113] ++ v60.1), v96, v78) : Int × Int × Int × List UInt8 × List Int × List Part))) else (some ((v95, v3, v4, ([113] ++ v60.1), v96, v78) : Int × Int × Int × List UInt8 × List Int × List Part))))
noncomputable def mk_Tape_Item_l0 (v1 : List Int) (v3 : Int) (v5 : Int) (v4 : Int) (v60 : List UInt8 × Int) (v76 : Int) (v77 : Int) (v78 : List Part) : Option ((Int × Int × List Part) ⊕ (Int × Int × Int × List UInt8 × List Int × List Part)) :=
  bif decide (v76 > 0) then ((mk_Tape_Part v1 v77 0).bind fun v80 => chk ((v78.length + 1) * 48 ≤ 140737488355328) (contO ((IntKind.i64.wrap (v76 - 1), v80.1, (v78 ++ [(Part.mk v80.2.1 v80.2.2.1 v80.2.2.2.1 v80.2.2.2.2.1 v80.2.2.2.2.2.1 v80.2.2.2.2.2.2)])) : Int × Int × List Part))) else (exitO (iter (fun g : Int × Int × List Int => mk_Tape_Item_l1 v3 v1 v5 v4 v60 v78 g.1 g.2.1 g.2.2) (0, v77, [])))
noncomputable def mk_Tape_Item (v1 : List Int) (v2 : Int) (v3 : Int) (v4 : Int) (v5 : Int) : Option (Int × Int × Int × List UInt8 × List Int × List Part) :=
  (mk_Tape_Word v1 v2 3).bind fun v60 => chk (1 + v60.1.length ≤ 281474976710656) ((mk_Tape_Range v1 v60.2 1 3).bind fun v68 => iter (fun g : Int × Int × List Part => mk_Tape_Item_l0 v1 v3 v5 v4 v60 g.1 g.2.1 g.2.2) (v68.1, v68.2, []))
theorem mk_Tape_Item_ok (v1 : List Int) (v2 : Int) (v3 : Int) (v4 : Int) (v5 : Int) (r : Int × Int × Int × List UInt8 × List Int × List Part) (hx : mk_Tape_Item v1 v2 v3 v4 v5 = some r) :
    ACalls Try.prog 39 [.box 0 0, .d (.int .i64 v3), .d (.int .i64 v4), .d (.int .i64 v5)] [(0, some (.box [.d (.sl (List.map iD v1)), .d (.int .i64 v2)]))] (.agg [.d (.int .i64 r.2.1), .d (.int .i64 r.2.2.1), .d (.str r.2.2.2.1), .arr 2001 0 r.2.2.2.2.2.length, .arr 2002 0 r.2.2.2.2.1.length]) [(0, some (.box [.d (.sl (List.map iD v1)), .d (.int .i64 r.1)])), (2001, some (.arr 68 6 (List.map Part.D r.2.2.2.2.2))), (2002, some (.arr 3 1 (List.map iD r.2.2.2.2.1)))] := by
  refine ACalls.of_cellS (n := 129) 1 8 62 (fn := Try.f39) Try.func39 rfl rfl rfl rfl (by simp) (by intro i; simp only [hget]; (repeat' split) <;> simp <;> omega) ?_
  unfold mk_Tape_Item at hx
  refine Walk.seq (Walk.region' rfl fun K hK => ?_)
  simp only [go_sem, seval]
  refine hK _ ?_
  clear hK K
  refine Walk.seq (Walk.region' rfl fun K hK => ?_)
  obtain ⟨v60, h149, hx⟩ := bind_elim hx
  simp only [go_sem, seval]
  refine VCl.sub [(0, some (.box [.d (.sl (List.map iD v1)), .d (.int .i64 v2)]))] [] rfl (by simp only [go_sem, seval, AV.viewXs, AV.viewX, avD]; try simp) (mk_Tape_Word_ok v1 v2 3 _ h149) (by simp) (by simp) (by simp) (by simp) (by simp) (by simp) (by simp) (by simp) (by simp) (by simp) ?_
  obtain ⟨k150, hx⟩ := chk_elim hx
  simp only [go_sem, seval, k150]
  repeat refine And.intro (by first | omega | (simp; done) | (simp; omega)) ?_
  refine hK _ ?_
  clear hK K
  refine Walk.weaken ⟨[(0, .box 0 0), (1, .d (.int .i64 v3)), (3, .d (.int .i64 v5)), (8, .box 9 0), (9, .box 10 0)], [(0, some (.box [.d (.sl (List.map iD v1)), .d (.int .i64 v60.2)])), (9, some (.box [.d (.int .i64 0), .d (.int .i64 0), .d (.str []), .nils, .nils])), (10, some (.box [.d (.int .i64 v3), .d (.int .i64 v4), .d (.str ([113] ++ v60.1)), .nils, .nils]))]⟩ (by simp [k150] <;> omega) (by simp [k150] <;> omega) ?_
  refine Walk.seq (Walk.seq (Walk.region' rfl fun K hK => ?_))
  obtain ⟨v68, h170, hx⟩ := bind_elim hx
  simp only [go_sem, seval, k150]
  refine VCl.sub [(0, some (.box [.d (.sl (List.map iD v1)), .d (.int .i64 v60.2)]))] [] rfl (by simp only [go_sem, seval, AV.viewXs, AV.viewX, avD, k150]; try simp) (mk_Tape_Range_ok v1 v60.2 1 3 _ h170) (by simp [k150]) (by simp [k150]) (by simp [k150]) (by simp [k150]) (by simp [k150]) (by simp [k150]) (by simp [k150]) (by simp [k150]) (by simp [k150]) (by simp [k150]) ?_
  simp only [go_sem, seval, k150]
  refine hK _ ?_
  clear hK K
  refine Walk.weaken ⟨[(0, .box 0 0), (1, .d (.int .i64 v3)), (3, .d (.int .i64 v5)), (8, .box 9 0), (9, .box 10 0), (10, .d (.int .i64 v68.1))], [(0, some (.box [.d (.sl (List.map iD v1)), .d (.int .i64 v68.2)])), (9, some (.box [.d (.int .i64 0), .d (.int .i64 0), .d (.str []), .nils, .nils])), (10, some (.box [.d (.int .i64 v3), .d (.int .i64 v4), .d (.str ([113] ++ v60.1)), .nils, .nils]))]⟩ (by simp [k150] <;> omega) (by simp [k150] <;> omega) ?_
  refine Walk.block (Walk.loop ?_)
  refine Walk.weaken ⟨[(0, .box 0 0), (1, .d (.int .i64 v3)), (3, .d (.int .i64 v5)), (8, .box 9 0), (9, .box 10 0), (10, .d (.int .i64 v68.1))], [(0, some (.box [.d (.sl (List.map iD v1)), .d (.int .i64 v68.2)])), (9, some (.box [.d (.int .i64 0), .d (.int .i64 0), .d (.str []), .nils, .nils])), (10, some (.box [.d (.int .i64 v3), .d (.int .i64 v4), .d (.str ([113] ++ v60.1)), .nils, .nils]))]⟩ (by simp [k150] <;> omega) (by simp [k150] <;> omega) ?_
  refine Walk.up 1009 68 6 [(0, .box 0 0), (1, .d (.int .i64 v3)), (3, .d (.int .i64 v5)), (8, .box 9 0), (9, .box 10 0), (10, .d (.int .i64 v68.1))] [(0, some (.box [.d (.sl (List.map iD v1)), .d (.int .i64 v68.2)])), (9, some (.box [.d (.int .i64 0), .d (.int .i64 0), .d (.str []), .nils, .nils])), (10, some (.box [.d (.int .i64 v3), .d (.int .i64 v4), .d (.str ([113] ++ v60.1)), .arr 1009 0 0, .nils]))] (by simp) (by simp) (by omega) (by simp) (by simp) (by simp) ?_
  refine Walk.weaken ⟨[(0, .box 0 0), (1, .d (.int .i64 v3)), (3, .d (.int .i64 v5)), (8, .box 9 0), (9, .box 10 0), (10, .d (.int .i64 v68.1))], [(0, some (.box [.d (.sl (List.map iD v1)), .d (.int .i64 v68.2)])), (9, some (.box [.d (.int .i64 0), .d (.int .i64 0), .d (.str []), .nils, .nils])), (10, some (.box [.d (.int .i64 v3), .d (.int .i64 v4), .d (.str ([113] ++ v60.1)), .arr 1009 0 0, .nils])), (1009, some (.arr 68 6 (List.map Part.D [])))]⟩ (by simp [k150] <;> omega) (by simp [k150] <;> omega) ?_
  refine Walk.iter (σ := Int × Int × List Part) (fun g => ⟨[(0, .box 0 0), (1, .d (.int .i64 v3)), (3, .d (.int .i64 v5)), (8, .box 9 0), (9, .box 10 0), (10, .d (.int .i64 g.1))], [(0, some (.box [.d (.sl (List.map iD v1)), .d (.int .i64 g.2.1)])), (9, some (.box [.d (.int .i64 0), .d (.int .i64 0), .d (.str []), .nils, .nils])), (10, some (.box [.d (.int .i64 v3), .d (.int .i64 v4), .d (.str ([113] ++ v60.1)), .arr 1009 0 g.2.2.length, .nils])), (1009, some (.arr 68 6 (List.map Part.D g.2.2)))]⟩) (fun g : Int × Int × List Part => mk_Tape_Item_l0 v1 v3 v5 v4 v60 g.1 g.2.1 g.2.2) _ (fun g y298 hx ih198 hr199 => ?_) (v68.1, v68.2, []) hx
  obtain ⟨v76, v77, v78⟩ := g
  unfold mk_Tape_Item_l0 at hx
  try dsimp only at hx ⊢
  refine Walk.seq (Walk.seq (Walk.region' rfl fun K hK => ?_))
  simp only [go_sem, seval, k150]
  refine hK _ ?_
  clear hK K
  refine Walk.condO rfl hx (fun c202 hx => ?_) (fun c202 hx => ?_)
  · refine Walk.skip (Walk.seq (Walk.block (Walk.drawn' rfl mixed fun K hK => ?_)))
    obtain ⟨v80, h203, hx⟩ := bind_elim hx
    simp only [go_sem, seval, k150, c202]
    refine VCl.sub [(0, some (.box [.d (.sl (List.map iD v1)), .d (.int .i64 v77)]))] [] rfl (by simp only [go_sem, seval, AV.viewXs, AV.viewX, avD, k150, c202]; try simp) (mk_Tape_Part_ok v1 v77 0 _ h203) (by simp [k150, c202]) (by simp [k150, c202]) (by simp [k150, c202]) (by simp [k150, c202]) (by simp [k150, c202]) (by simp [k150, c202]) (by simp [k150, c202]) (by simp [k150, c202]) (by simp [k150, c202]) (by simp [k150, c202]) ?_
    obtain ⟨k204, hx⟩ := chk_elim hx
    simp only [go_sem, seval, k150, c202, k204]
    repeat refine And.intro (by first | omega | (simp; done) | (simp; omega)) ?_
    refine hK _ _ (by kernel_rfl) (by simp [k150, c202, k204]) ?_
    clear hK K
    refine Walk.weaken ⟨[(0, .box 0 0), (1, .d (.int .i64 v3)), (3, .d (.int .i64 v5)), (8, .box 9 0), (9, .box 10 0), (10, .d (.int .i64 v76))], [(0, some (.box [.d (.sl (List.map iD v1)), .d (.int .i64 v80.1)])), (9, some (.box [.d (.int .i64 0), .d (.int .i64 0), .d (.str []), .nils, .nils])), (10, some (.box [.d (.int .i64 v3), .d (.int .i64 v4), .d (.str ([113] ++ v60.1)), .arr 1009 0 (((v78 ++ [(Part.mk v80.2.1 v80.2.2.1 v80.2.2.2.1 v80.2.2.2.2.1 v80.2.2.2.2.2.1 v80.2.2.2.2.2.2)])).length), .nils])), (1009, some (.arr 68 6 (List.map Part.D ((v78 ++ [(Part.mk v80.2.1 v80.2.2.1 v80.2.2.2.1 v80.2.2.2.2.1 v80.2.2.2.2.2.1 v80.2.2.2.2.2.2)])))))]⟩ (by simp [k150, c202, k204] <;> omega) (by simp [k150, c202, k204] <;> omega) ?_
    refine Walk.inBlock (Walk.region' rfl fun K hK => ?_)
    simp only [go_sem, seval, k150, c202, k204]
    refine hK _ ?_
    clear hK K
    exact Walk.weaken _ (by simp [k150, c202, k204] <;> omega) (by simp [k150, c202, k204] <;> omega) (ih198 _ (cont_elim hx))
  refine Walk.exit rfl ?_
  obtain ⟨z205, e206, hx⟩ := exit_elim hx
  rw [hr199 z205 e206] at hx
  refine Walk.seq (Walk.seq (Walk.region' rfl fun K hK => ?_))
  simp only [go_sem, seval, k150, c202]
  refine hK _ ?_
  clear hK K
  refine Walk.block (Walk.loop ?_)
  refine Walk.weaken ⟨[(0, .box 0 0), (1, .d (.int .i64 v3)), (3, .d (.int .i64 v5)), (8, .box 9 0), (9, .box 10 0), (11, .d (.int .i64 0))], [(0, some (.box [.d (.sl (List.map iD v1)), .d (.int .i64 v77)])), (9, some (.box [.d (.int .i64 0), .d (.int .i64 0), .d (.str []), .nils, .nils])), (10, some (.box [.d (.int .i64 v3), .d (.int .i64 v4), .d (.str ([113] ++ v60.1)), .arr 1009 0 v78.length, .nils])), (1009, some (.arr 68 6 (List.map Part.D v78)))]⟩ (by simp [k150, c202] <;> omega) (by simp [k150, c202] <;> omega) ?_
  refine Walk.up 1012 3 1 [(0, .box 0 0), (1, .d (.int .i64 v3)), (3, .d (.int .i64 v5)), (8, .box 9 0), (9, .box 10 0), (11, .d (.int .i64 0))] [(0, some (.box [.d (.sl (List.map iD v1)), .d (.int .i64 v77)])), (9, some (.box [.d (.int .i64 0), .d (.int .i64 0), .d (.str []), .nils, .nils])), (10, some (.box [.d (.int .i64 v3), .d (.int .i64 v4), .d (.str ([113] ++ v60.1)), .arr 1009 0 v78.length, .arr 1012 0 0])), (1009, some (.arr 68 6 (List.map Part.D v78)))] (by simp) (by simp) (by omega) (by simp) (by simp) (by simp) ?_
  refine Walk.weaken ⟨[(0, .box 0 0), (1, .d (.int .i64 v3)), (3, .d (.int .i64 v5)), (8, .box 9 0), (9, .box 10 0), (11, .d (.int .i64 0))], [(0, some (.box [.d (.sl (List.map iD v1)), .d (.int .i64 v77)])), (9, some (.box [.d (.int .i64 0), .d (.int .i64 0), .d (.str []), .nils, .nils])), (10, some (.box [.d (.int .i64 v3), .d (.int .i64 v4), .d (.str ([113] ++ v60.1)), .arr 1009 0 v78.length, .arr 1012 0 0])), (1009, some (.arr 68 6 (List.map Part.D v78))), (1012, some (.arr 3 1 (List.map iD [])))]⟩ (by simp [k150, c202] <;> omega) (by simp [k150, c202] <;> omega) ?_
  refine Walk.iter (σ := Int × Int × List Int) (fun g => ⟨[(0, .box 0 0), (1, .d (.int .i64 v3)), (3, .d (.int .i64 v5)), (8, .box 9 0), (9, .box 10 0), (11, .d (.int .i64 g.1))], [(0, some (.box [.d (.sl (List.map iD v1)), .d (.int .i64 g.2.1)])), (9, some (.box [.d (.int .i64 0), .d (.int .i64 0), .d (.str []), .nils, .nils])), (10, some (.box [.d (.int .i64 v3), .d (.int .i64 v4), .d (.str ([113] ++ v60.1)), .arr 1009 0 v78.length, .arr 1012 0 g.2.2.length])), (1009, some (.arr 68 6 (List.map Part.D v78))), (1012, some (.arr 3 1 (List.map iD g.2.2)))]⟩) (fun g : Int × Int × List Int => mk_Tape_Item_l1 v3 v1 v5 v4 v60 v78 g.1 g.2.1 g.2.2) _ (fun g y297 hx ih259 hr260 => ?_) (0, v77, []) hx
  obtain ⟨v94, v95, v96⟩ := g
  unfold mk_Tape_Item_l1 at hx
  try dsimp only at hx ⊢
  refine Walk.seq (Walk.seq (Walk.region' rfl fun K hK => ?_))
  simp only [go_sem, seval, k150, c202]
  refine hK _ ?_
  clear hK K
  refine Walk.condO rfl hx (fun c263 hx => ?_) (fun c263 hx => ?_)
  · refine Walk.skip (Walk.seq (Walk.block (Walk.seq (Walk.region' rfl fun K hK => ?_))))
    simp only [go_sem, seval, k150, c202, c263]
    refine VGdO hx (fun g264 hx => ?_) (fun g264 hx => ?_)
    · obtain ⟨v98, h265, hx⟩ := bind_elim hx
      simp only [go_sem, seval, k150, c202, c263, g264]
      refine VCl.sub [(0, some (.box [.d (.sl (List.map iD v1)), .d (.int .i64 v95)]))] [] rfl (by simp only [go_sem, seval, AV.viewXs, AV.viewX, avD, k150, c202, c263, g264]; try simp) (mk_Tape_One_ok v1 v95 8 _ h265) (by simp [k150, c202, c263, g264]) (by simp [k150, c202, c263, g264]) (by simp [k150, c202, c263, g264]) (by simp [k150, c202, c263, g264]) (by simp [k150, c202, c263, g264]) (by simp [k150, c202, c263, g264]) (by simp [k150, c202, c263, g264]) (by simp [k150, c202, c263, g264]) (by simp [k150, c202, c263, g264]) (by simp [k150, c202, c263, g264]) ?_
      simp only [go_sem, seval, k150, c202, c263, g264]
      refine hK _ ?_
      clear hK K
      refine Walk.weaken ⟨[(0, .box 0 0), (1, .d (.int .i64 v3)), (3, .d (.int .i64 v5)), (8, .box 9 0), (9, .box 10 0), (11, .d (.int .i64 v94)), (41, .d (.bool v98.1))], [(0, some (.box [.d (.sl (List.map iD v1)), .d (.int .i64 v98.2)])), (9, some (.box [.d (.int .i64 0), .d (.int .i64 0), .d (.str []), .nils, .nils])), (10, some (.box [.d (.int .i64 v3), .d (.int .i64 v4), .d (.str ([113] ++ v60.1)), .arr 1009 0 v78.length, .arr 1012 0 v96.length])), (1009, some (.arr 68 6 (List.map Part.D v78))), (1012, some (.arr 3 1 (List.map iD v96)))]⟩ (by simp [k150, c202, c263, g264] <;> omega) (by simp [k150, c202, c263, g264] <;> omega) ?_
      refine Walk.condO rfl hx (fun c266 hx => ?_) (fun c266 hx => ?_)
      · refine Walk.region' rfl fun K hK => ?_
        obtain ⟨k267, hx⟩ := chk_elim hx
        simp only [go_sem, seval, k150, c202, c263, g264, c266, k267]
        repeat refine And.intro (by first | omega | (simp; done) | (simp; omega)) ?_
        refine hK _ ?_
        clear hK K
        refine Walk.weaken ⟨[(0, .box 0 0), (1, .d (.int .i64 v3)), (3, .d (.int .i64 v5)), (8, .box 9 0), (9, .box 10 0), (11, .d (.int .i64 v94))], [(0, some (.box [.d (.sl (List.map iD v1)), .d (.int .i64 v98.2)])), (9, some (.box [.d (.int .i64 0), .d (.int .i64 0), .d (.str []), .nils, .nils])), (10, some (.box [.d (.int .i64 v3), .d (.int .i64 v4), .d (.str ([113] ++ v60.1)), .arr 1009 0 v78.length, .arr 1012 0 ((v96 ++ [v94]).length)])), (1009, some (.arr 68 6 (List.map Part.D v78))), (1012, some (.arr 3 1 (List.map iD (v96 ++ [v94]))))]⟩ (by simp [k150, c202, c263, g264, c266, k267] <;> omega) (by simp [k150, c202, c263, g264, c266, k267] <;> omega) ?_
        refine Walk.inBlock (Walk.region' rfl fun K hK => ?_)
        simp only [go_sem, seval, k150, c202, c263, g264, c266, k267]
        refine hK _ ?_
        clear hK K
        exact Walk.weaken _ (by simp [k150, c202, c263, g264, c266, k267] <;> omega) (by simp [k150, c202, c263, g264, c266, k267] <;> omega) (ih259 _ (cont_elim hx))
      refine Walk.skip (Walk.inBlock (Walk.region' rfl fun K hK => ?_))
      simp only [go_sem, seval, k150, c202, c263, g264, c266]
      refine hK _ ?_
      clear hK K
      exact Walk.weaken _ (by simp [k150, c202, c263, g264, c266] <;> omega) (by simp [k150, c202, c263, g264, c266] <;> omega) (ih259 _ (cont_elim hx))
    simp only [go_sem, seval, k150, c202, c263, g264]
    refine hK _ ?_
    clear hK K
    refine Walk.condF rfl (Walk.skip (Walk.inBlock (Walk.region' rfl fun K hK => ?_)))
    simp only [go_sem, seval, k150, c202, c263, g264]
    refine hK _ ?_
    clear hK K
    exact Walk.weaken _ (by simp [k150, c202, c263, g264] <;> omega) (by simp [k150, c202, c263, g264] <;> omega) (ih259 _ (cont_elim hx))
  refine Walk.exit rfl ?_
  obtain ⟨z268, e269, hx⟩ := exit_elim hx
  rw [hr260 z268 e269] at hx
  refine Walk.seq (Walk.seq (Walk.region' rfl fun K hK => ?_))
  simp only [go_sem, seval, k150, c202, c263]
  refine VGdO hx (fun g270 hx => ?_) (fun g270 hx => ?_)
  · obtain ⟨v99, h271, hx⟩ := bind_elim hx
    simp only [go_sem, seval, k150, c202, c263, g270]
    refine VCl.sub [(0, some (.box [.d (.sl (List.map iD v1)), .d (.int .i64 v95)]))] [] rfl (by simp only [go_sem, seval, AV.viewXs, AV.viewX, avD, k150, c202, c263, g270]; try simp) (mk_Tape_One_ok v1 v95 v5 _ h271) (by simp [k150, c202, c263, g270]) (by simp [k150, c202, c263, g270]) (by simp [k150, c202, c263, g270]) (by simp [k150, c202, c263, g270]) (by simp [k150, c202, c263, g270]) (by simp [k150, c202, c263, g270]) (by simp [k150, c202, c263, g270]) (by simp [k150, c202, c263, g270]) (by simp [k150, c202, c263, g270]) (by simp [k150, c202, c263, g270]) ?_
    simp only [go_sem, seval, k150, c202, c263, g270]
    refine hK _ ?_
    clear hK K
    refine Walk.weaken ⟨[(0, .box 0 0), (1, .d (.int .i64 v3)), (8, .box 9 0), (9, .box 10 0), (54, .d (.bool v99.1))], [(0, some (.box [.d (.sl (List.map iD v1)), .d (.int .i64 v99.2)])), (9, some (.box [.d (.int .i64 0), .d (.int .i64 0), .d (.str []), .nils, .nils])), (10, some (.box [.d (.int .i64 v3), .d (.int .i64 v4), .d (.str ([113] ++ v60.1)), .arr 1009 0 v78.length, .arr 1012 0 v96.length])), (1009, some (.arr 68 6 (List.map Part.D v78))), (1012, some (.arr 3 1 (List.map iD v96)))]⟩ (by simp [k150, c202, c263, g270] <;> omega) (by simp [k150, c202, c263, g270] <;> omega) ?_
    refine Walk.condO rfl hx (fun c272 hx => ?_) (fun c272 hx => ?_)
    · refine Walk.seq (Walk.region' rfl fun K hK => ?_)
      obtain ⟨v100, h273, hx⟩ := bind_elim hx
      simp only [go_sem, seval, k150, c202, c263, g270, c272]
      refine VCl.sub [(0, some (.box [.d (.sl (List.map iD v1)), .d (.int .i64 v99.2)]))] [] rfl (by simp only [go_sem, seval, AV.viewXs, AV.viewX, avD, k150, c202, c263, g270, c272]; try simp) (mk_Tape_Next_ok v1 v99.2 7 _ h273) (by simp [k150, c202, c263, g270, c272]) (by simp [k150, c202, c263, g270, c272]) (by simp [k150, c202, c263, g270, c272]) (by simp [k150, c202, c263, g270, c272]) (by simp [k150, c202, c263, g270, c272]) (by simp [k150, c202, c263, g270, c272]) (by simp [k150, c202, c263, g270, c272]) (by simp [k150, c202, c263, g270, c272]) (by simp [k150, c202, c263, g270, c272]) (by simp [k150, c202, c263, g270, c272]) ?_
      simp only [go_sem, seval, k150, c202, c263, g270, c272]
      refine hK _ ?_
      clear hK K
      refine Walk.weaken ⟨[(0, .box 0 0), (1, .d (.int .i64 v3)), (8, .box 9 0), (9, .box 10 0), (56, .d (.int .i64 v100.1))], [(0, some (.box [.d (.sl (List.map iD v1)), .d (.int .i64 v100.2)])), (9, some (.box [.d (.int .i64 0), .d (.int .i64 0), .d (.str []), .nils, .nils])), (10, some (.box [.d (.int .i64 v3), .d (.int .i64 v4), .d (.str ([113] ++ v60.1)), .arr 1009 0 v78.length, .arr 1012 0 v96.length])), (1009, some (.arr 68 6 (List.map Part.D v78))), (1012, some (.arr 3 1 (List.map iD v96)))]⟩ (by simp [k150, c202, c263, g270, c272] <;> omega) (by simp [k150, c202, c263, g270, c272] <;> omega) ?_
      refine Walk.block (Walk.seq (Walk.region' rfl fun K hK => ?_))
      simp only [go_sem, seval, k150, c202, c263, g270, c272]
      refine hK _ ?_
      clear hK K
      refine Walk.condO rfl hx (fun c274 hx => ?_) (fun c274 hx => ?_)
      · refine Walk.region' rfl fun K hK => ?_
        obtain ⟨v101, h275, hx⟩ := bind_elim hx
        simp only [go_sem, seval, k150, c202, c263, g270, c272, c274]
        refine VCl.sub [(0, some (.box [.d (.sl (List.map iD v1)), .d (.int .i64 v100.2)]))] [] rfl (by simp only [go_sem, seval, AV.viewXs, AV.viewX, avD, k150, c202, c263, g270, c272, c274]; try simp) (mk_Tape_Wild_ok v1 v100.2 _ h275) (by simp [k150, c202, c263, g270, c272, c274]) (by simp [k150, c202, c263, g270, c272, c274]) (by simp [k150, c202, c263, g270, c272, c274]) (by simp [k150, c202, c263, g270, c272, c274]) (by simp [k150, c202, c263, g270, c272, c274]) (by simp [k150, c202, c263, g270, c272, c274]) (by simp [k150, c202, c263, g270, c272, c274]) (by simp [k150, c202, c263, g270, c272, c274]) (by simp [k150, c202, c263, g270, c272, c274]) (by simp [k150, c202, c263, g270, c272, c274]) ?_
        simp only [go_sem, seval, k150, c202, c263, g270, c272, c274]
        refine hK _ ?_
        clear hK K
        refine Walk.weaken ⟨[(8, .box 9 0), (9, .box 10 0)], [(0, some (.box [.d (.sl (List.map iD v1)), .d (.int .i64 v101.2)])), (9, some (.box [.d (.int .i64 0), .d (.int .i64 0), .d (.str []), .nils, .nils])), (10, some (.box [.d (.int .i64 v101.1), .d (.int .i64 v4), .d (.str ([113] ++ v60.1)), .arr 1009 0 v78.length, .arr 1012 0 v96.length])), (1009, some (.arr 68 6 (List.map Part.D v78))), (1012, some (.arr 3 1 (List.map iD v96)))]⟩ (by simp [k150, c202, c263, g270, c272, c274] <;> omega) (by simp [k150, c202, c263, g270, c272, c274] <;> omega) ?_
        refine Walk.inBlock (Walk.seq (Walk.region' rfl fun K hK => ?_))
        simp only [go_sem, seval, k150, c202, c263, g270, c272, c274]
        refine hK _ ?_
        clear hK K
        refine Walk.weaken ⟨[(8, .box 9 0)], [(0, some (.box [.d (.sl (List.map iD v1)), .d (.int .i64 v101.2)])), (9, some (.box [.d (.int .i64 v101.1), .d (.int .i64 v4), .d (.str ([113] ++ v60.1)), .arr 1009 0 v78.length, .arr 1012 0 v96.length])), (1009, some (.arr 68 6 (List.map Part.D v78))), (1012, some (.arr 3 1 (List.map iD v96)))]⟩ (by simp [k150, c202, c263, g270, c272, c274] <;> omega) (by simp [k150, c202, c263, g270, c272, c274] <;> omega) ?_
        refine Walk.rename 9 2000 (by omega) (by omega) (by simp) (by simp) ?_
        simp only [renE, renL, AV.ren, AV.rens, AObj.ren, swp, Option.map_some, reduceIte, Nat.reduceEqDiff]
        refine Walk.rename 1009 2001 (by omega) (by omega) (by simp) (by simp) ?_
        simp only [renE, renL, AV.ren, AV.rens, AObj.ren, swp, Option.map_some, reduceIte, Nat.reduceEqDiff]
        refine Walk.rename 1012 2002 (by omega) (by omega) (by simp) (by simp) ?_
        simp only [renE, renL, AV.ren, AV.rens, AObj.ren, swp, Option.map_some, reduceIte, Nat.reduceEqDiff]
        obtain rfl := Option.some.inj hx
        exact Walk.ret ⟨2000, 0, by simp, by simp, by simp [k150, c202, c263, g270, c272, c274], by simp [k150, c202, c263, g270, c272, c274]⟩
      refine Walk.seq (Walk.region' rfl fun K hK => ?_)
      simp only [go_sem, seval, k150, c202, c263, g270, c272, c274]
      refine hK _ ?_
      clear hK K
      refine Walk.condO rfl hx (fun c276 hx => ?_) (fun c276 hx => ?_)
      · refine Walk.region' rfl fun K hK => ?_
        obtain ⟨v102, h277, hx⟩ := bind_elim hx
        simp only [go_sem, seval, k150, c202, c263, g270, c272, c274, c276]
        refine VCl.sub [(0, some (.box [.d (.sl (List.map iD v1)), .d (.int .i64 v100.2)]))] [95] rfl (by simp only [go_sem, seval, AV.viewXs, AV.viewX, avD, k150, c202, c263, g270, c272, c274, c276]; try simp) (mk_Tape_Pick_ok v1 v100.2 [0, 8, 9, -1] _ h277) (by simp [k150, c202, c263, g270, c272, c274, c276]) (by simp [k150, c202, c263, g270, c272, c274, c276]) (by simp [k150, c202, c263, g270, c272, c274, c276]) (by simp [k150, c202, c263, g270, c272, c274, c276]) (by simp [k150, c202, c263, g270, c272, c274, c276]) (by simp [k150, c202, c263, g270, c272, c274, c276]) (by simp [k150, c202, c263, g270, c272, c274, c276]) (by simp [k150, c202, c263, g270, c272, c274, c276]) (by simp [k150, c202, c263, g270, c272, c274, c276]) (by simp [k150, c202, c263, g270, c272, c274, c276]) ?_
        simp only [go_sem, seval, k150, c202, c263, g270, c272, c274, c276]
        refine hK _ ?_
        clear hK K
        refine Walk.weaken ⟨[(8, .box 9 0), (9, .box 10 0)], [(0, some (.box [.d (.sl (List.map iD v1)), .d (.int .i64 v102.2)])), (9, some (.box [.d (.int .i64 0), .d (.int .i64 0), .d (.str []), .nils, .nils])), (10, some (.box [.d (.int .i64 v3), .d (.int .i64 v102.1), .d (.str ([113] ++ v60.1)), .arr 1009 0 v78.length, .arr 1012 0 v96.length])), (1009, some (.arr 68 6 (List.map Part.D v78))), (1012, some (.arr 3 1 (List.map iD v96)))]⟩ (by simp [k150, c202, c263, g270, c272, c274, c276] <;> omega) (by simp [k150, c202, c263, g270, c272, c274, c276] <;> omega) ?_
        refine Walk.inBlock (Walk.seq (Walk.region' rfl fun K hK => ?_))
        simp only [go_sem, seval, k150, c202, c263, g270, c272, c274, c276]
        refine hK _ ?_
        clear hK K
        refine Walk.weaken ⟨[(8, .box 9 0)], [(0, some (.box [.d (.sl (List.map iD v1)), .d (.int .i64 v102.2)])), (9, some (.box [.d (.int .i64 v3), .d (.int .i64 v102.1), .d (.str ([113] ++ v60.1)), .arr 1009 0 v78.length, .arr 1012 0 v96.length])), (1009, some (.arr 68 6 (List.map Part.D v78))), (1012, some (.arr 3 1 (List.map iD v96)))]⟩ (by simp [k150, c202, c263, g270, c272, c274, c276] <;> omega) (by simp [k150, c202, c263, g270, c272, c274, c276] <;> omega) ?_
        refine Walk.rename 9 2000 (by omega) (by omega) (by simp) (by simp) ?_
        simp only [renE, renL, AV.ren, AV.rens, AObj.ren, swp, Option.map_some, reduceIte, Nat.reduceEqDiff]
        refine Walk.rename 1009 2001 (by omega) (by omega) (by simp) (by simp) ?_
        simp only [renE, renL, AV.ren, AV.rens, AObj.ren, swp, Option.map_some, reduceIte, Nat.reduceEqDiff]
        refine Walk.rename 1012 2002 (by omega) (by omega) (by simp) (by simp) ?_
        simp only [renE, renL, AV.ren, AV.rens, AObj.ren, swp, Option.map_some, reduceIte, Nat.reduceEqDiff]
        obtain rfl := Option.some.inj hx
        exact Walk.ret ⟨2000, 0, by simp, by simp, by simp [k150, c202, c263, g270, c272, c274, c276], by simp [k150, c202, c263, g270, c272, c274, c276]⟩
      refine Walk.seq (Walk.region' rfl fun K hK => ?_)
      simp only [go_sem, seval, k150, c202, c263, g270, c272, c274, c276]
      refine hK _ ?_
      clear hK K
      refine Walk.condO rfl hx (fun c278 hx => ?_) (fun c278 hx => ?_)
      · refine Walk.region' rfl fun K hK => ?_
        obtain ⟨v103, h279, hx⟩ := bind_elim hx
        simp only [go_sem, seval, k150, c202, c263, g270, c272, c274, c276, c278]
        refine VCl.sub [(0, some (.box [.d (.sl (List.map iD v1)), .d (.int .i64 v100.2)]))] [] rfl (by simp only [go_sem, seval, AV.viewXs, AV.viewX, avD, k150, c202, c263, g270, c272, c274, c276, c278]; try simp) (mk_Tape_Next_ok v1 v100.2 3 _ h279) (by simp [k150, c202, c263, g270, c272, c274, c276, c278]) (by simp [k150, c202, c263, g270, c272, c274, c276, c278]) (by simp [k150, c202, c263, g270, c272, c274, c276, c278]) (by simp [k150, c202, c263, g270, c272, c274, c276, c278]) (by simp [k150, c202, c263, g270, c272, c274, c276, c278]) (by simp [k150, c202, c263, g270, c272, c274, c276, c278]) (by simp [k150, c202, c263, g270, c272, c274, c276, c278]) (by simp [k150, c202, c263, g270, c272, c274, c276, c278]) (by simp [k150, c202, c263, g270, c272, c274, c276, c278]) (by simp [k150, c202, c263, g270, c272, c274, c276, c278]) ?_
        obtain ⟨v104, r280, a281, b282, c283, hx⟩ := rd_elim hx
        have q284 := c283 tD _ rfl
        simp only [go_sem, seval] at q284
        simp only [go_sem, seval, k150, c202, c263, g270, c272, c274, c276, c278, a281, b282, c283, q284]
        repeat refine And.intro (by first | omega | (simp; done) | (simp; omega)) ?_
        refine hK _ ?_
        clear hK K
        refine Walk.weaken ⟨[(8, .box 9 0), (9, .box 10 0)], [(0, some (.box [.d (.sl (List.map iD v1)), .d (.int .i64 v103.2)])), (9, some (.box [.d (.int .i64 0), .d (.int .i64 0), .d (.str []), .nils, .nils])), (10, some (.box [.d (.int .i64 v3), .d (.int .i64 v4), .d (.str v104), .arr 1009 0 v78.length, .arr 1012 0 v96.length])), (1009, some (.arr 68 6 (List.map Part.D v78))), (1012, some (.arr 3 1 (List.map iD v96)))]⟩ (by simp [k150, c202, c263, g270, c272, c274, c276, c278, a281, b282, c283, q284] <;> omega) (by simp [k150, c202, c263, g270, c272, c274, c276, c278, a281, b282, c283, q284] <;> omega) ?_
        refine Walk.inBlock (Walk.seq (Walk.region' rfl fun K hK => ?_))
        simp only [go_sem, seval, k150, c202, c263, g270, c272, c274, c276, c278, a281, b282, c283, q284]
        refine hK _ ?_
        clear hK K
        refine Walk.weaken ⟨[(8, .box 9 0)], [(0, some (.box [.d (.sl (List.map iD v1)), .d (.int .i64 v103.2)])), (9, some (.box [.d (.int .i64 v3), .d (.int .i64 v4), .d (.str v104), .arr 1009 0 v78.length, .arr 1012 0 v96.length])), (1009, some (.arr 68 6 (List.map Part.D v78))), (1012, some (.arr 3 1 (List.map iD v96)))]⟩ (by simp [k150, c202, c263, g270, c272, c274, c276, c278, a281, b282, c283, q284] <;> omega) (by simp [k150, c202, c263, g270, c272, c274, c276, c278, a281, b282, c283, q284] <;> omega) ?_
        refine Walk.rename 9 2000 (by omega) (by omega) (by simp) (by simp) ?_
        simp only [renE, renL, AV.ren, AV.rens, AObj.ren, swp, Option.map_some, reduceIte, Nat.reduceEqDiff]
        refine Walk.rename 1009 2001 (by omega) (by omega) (by simp) (by simp) ?_
        simp only [renE, renL, AV.ren, AV.rens, AObj.ren, swp, Option.map_some, reduceIte, Nat.reduceEqDiff]
        refine Walk.rename 1012 2002 (by omega) (by omega) (by simp) (by simp) ?_
        simp only [renE, renL, AV.ren, AV.rens, AObj.ren, swp, Option.map_some, reduceIte, Nat.reduceEqDiff]
        obtain rfl := Option.some.inj hx
        exact Walk.ret ⟨2000, 0, by simp, by simp, by simp [k150, c202, c263, g270, c272, c274, c276, c278, a281, b282, c283, q284], by simp [k150, c202, c263, g270, c272, c274, c276, c278, a281, b282, c283, q284]⟩
      refine Walk.seq (Walk.region' rfl fun K hK => ?_)
      simp only [go_sem, seval, k150, c202, c263, g270, c272, c274, c276, c278]
      refine hK _ ?_
      clear hK K
      refine Walk.condO rfl hx (fun c285 hx => ?_) (fun c285 hx => ?_)
      · refine Walk.region' rfl fun K hK => ?_
        simp only [go_sem, seval, k150, c202, c263, g270, c272, c274, c276, c278, c285]
        refine hK _ ?_
        clear hK K
        refine Walk.inBlock (Walk.seq (Walk.region' rfl fun K hK => ?_))
        simp only [go_sem, seval, k150, c202, c263, g270, c272, c274, c276, c278, c285]
        refine hK _ ?_
        clear hK K
        refine Walk.weaken ⟨[(8, .box 9 0)], [(0, some (.box [.d (.sl (List.map iD v1)), .d (.int .i64 v100.2)])), (9, some (.box [.d (.int .i64 v3), .d (.int .i64 v4), .d (.str ([113] ++ v60.1)), .nils, .arr 1012 0 v96.length])), (1012, some (.arr 3 1 (List.map iD v96)))]⟩ (by simp [k150, c202, c263, g270, c272, c274, c276, c278, c285] <;> omega) (by simp [k150, c202, c263, g270, c272, c274, c276, c278, c285] <;> omega) ?_
        refine Walk.up 2001 68 6 [(8, .box 9 0)] [(0, some (.box [.d (.sl (List.map iD v1)), .d (.int .i64 v100.2)])), (9, some (.box [.d (.int .i64 v3), .d (.int .i64 v4), .d (.str ([113] ++ v60.1)), .arr 2001 0 0, .arr 1012 0 v96.length])), (1012, some (.arr 3 1 (List.map iD v96)))] (by simp) (by simp) (by omega) (by simp) (by simp) (by simp) ?_
        refine Walk.rename 9 2000 (by omega) (by omega) (by simp) (by simp) ?_
        simp only [renE, renL, AV.ren, AV.rens, AObj.ren, swp, Option.map_some, reduceIte, Nat.reduceEqDiff]
        refine Walk.rename 1012 2002 (by omega) (by omega) (by simp) (by simp) ?_
        simp only [renE, renL, AV.ren, AV.rens, AObj.ren, swp, Option.map_some, reduceIte, Nat.reduceEqDiff]
        obtain rfl := Option.some.inj hx
        exact Walk.ret ⟨2000, 0, by simp, by simp, by simp [k150, c202, c263, g270, c272, c274, c276, c278, c285], by simp [k150, c202, c263, g270, c272, c274, c276, c278, c285]⟩
      refine Walk.seq (Walk.region' rfl fun K hK => ?_)
      simp only [go_sem, seval, k150, c202, c263, g270, c272, c274, c276, c278, c285]
      refine hK _ ?_
      clear hK K
      refine Walk.condO rfl hx (fun c286 hx => ?_) (fun c286 hx => ?_)
      · refine Walk.drawn' rfl mixed fun K hK => ?_
        obtain ⟨v105, h287, hx⟩ := bind_elim hx
        simp only [go_sem, seval, k150, c202, c263, g270, c272, c274, c276, c278, c285, c286]
        refine VCl.sub [(0, some (.box [.d (.sl (List.map iD v1)), .d (.int .i64 v100.2)]))] [] rfl (by simp only [go_sem, seval, AV.viewXs, AV.viewX, avD, k150, c202, c263, g270, c272, c274, c276, c278, c285, c286]; try simp) (mk_Tape_Part_ok v1 v100.2 1 _ h287) (by simp [k150, c202, c263, g270, c272, c274, c276, c278, c285, c286]) (by simp [k150, c202, c263, g270, c272, c274, c276, c278, c285, c286]) (by simp [k150, c202, c263, g270, c272, c274, c276, c278, c285, c286]) (by simp [k150, c202, c263, g270, c272, c274, c276, c278, c285, c286]) (by simp [k150, c202, c263, g270, c272, c274, c276, c278, c285, c286]) (by simp [k150, c202, c263, g270, c272, c274, c276, c278, c285, c286]) (by simp [k150, c202, c263, g270, c272, c274, c276, c278, c285, c286]) (by simp [k150, c202, c263, g270, c272, c274, c276, c278, c285, c286]) (by simp [k150, c202, c263, g270, c272, c274, c276, c278, c285, c286]) (by simp [k150, c202, c263, g270, c272, c274, c276, c278, c285, c286]) ?_
        obtain ⟨k288, hx⟩ := chk_elim hx
        simp only [go_sem, seval, k150, c202, c263, g270, c272, c274, c276, c278, c285, c286, k288]
        repeat refine And.intro (by first | omega | (simp; done) | (simp; omega)) ?_
        refine hK _ _ (by kernel_rfl) (by simp [k150, c202, c263, g270, c272, c274, c276, c278, c285, c286, k288]) ?_
        clear hK K
        refine Walk.weaken ⟨[(8, .box 9 0), (9, .box 10 0)], [(0, some (.box [.d (.sl (List.map iD v1)), .d (.int .i64 v105.1)])), (9, some (.box [.d (.int .i64 0), .d (.int .i64 0), .d (.str []), .nils, .nils])), (10, some (.box [.d (.int .i64 v3), .d (.int .i64 v4), .d (.str ([113] ++ v60.1)), .arr 1009 0 (((v78 ++ [(Part.mk v105.2.1 v105.2.2.1 v105.2.2.2.1 v105.2.2.2.2.1 v105.2.2.2.2.2.1 v105.2.2.2.2.2.2)])).length), .arr 1012 0 v96.length])), (1009, some (.arr 68 6 (List.map Part.D ((v78 ++ [(Part.mk v105.2.1 v105.2.2.1 v105.2.2.2.1 v105.2.2.2.2.1 v105.2.2.2.2.2.1 v105.2.2.2.2.2.2)]))))), (1012, some (.arr 3 1 (List.map iD v96)))]⟩ (by simp [k150, c202, c263, g270, c272, c274, c276, c278, c285, c286, k288] <;> omega) (by simp [k150, c202, c263, g270, c272, c274, c276, c278, c285, c286, k288] <;> omega) ?_
        refine Walk.inBlock (Walk.seq (Walk.region' rfl fun K hK => ?_))
        simp only [go_sem, seval, k150, c202, c263, g270, c272, c274, c276, c278, c285, c286, k288]
        refine hK _ ?_
        clear hK K
        refine Walk.weaken ⟨[(8, .box 9 0)], [(0, some (.box [.d (.sl (List.map iD v1)), .d (.int .i64 v105.1)])), (9, some (.box [.d (.int .i64 v3), .d (.int .i64 v4), .d (.str ([113] ++ v60.1)), .arr 1009 0 (((v78 ++ [(Part.mk v105.2.1 v105.2.2.1 v105.2.2.2.1 v105.2.2.2.2.1 v105.2.2.2.2.2.1 v105.2.2.2.2.2.2)])).length), .arr 1012 0 v96.length])), (1009, some (.arr 68 6 (List.map Part.D ((v78 ++ [(Part.mk v105.2.1 v105.2.2.1 v105.2.2.2.1 v105.2.2.2.2.1 v105.2.2.2.2.2.1 v105.2.2.2.2.2.2)]))))), (1012, some (.arr 3 1 (List.map iD v96)))]⟩ (by simp [k150, c202, c263, g270, c272, c274, c276, c278, c285, c286, k288] <;> omega) (by simp [k150, c202, c263, g270, c272, c274, c276, c278, c285, c286, k288] <;> omega) ?_
        refine Walk.rename 9 2000 (by omega) (by omega) (by simp) (by simp) ?_
        simp only [renE, renL, AV.ren, AV.rens, AObj.ren, swp, Option.map_some, reduceIte, Nat.reduceEqDiff]
        refine Walk.rename 1009 2001 (by omega) (by omega) (by simp) (by simp) ?_
        simp only [renE, renL, AV.ren, AV.rens, AObj.ren, swp, Option.map_some, reduceIte, Nat.reduceEqDiff]
        refine Walk.rename 1012 2002 (by omega) (by omega) (by simp) (by simp) ?_
        simp only [renE, renL, AV.ren, AV.rens, AObj.ren, swp, Option.map_some, reduceIte, Nat.reduceEqDiff]
        obtain rfl := Option.some.inj hx
        exact Walk.ret ⟨2000, 0, by simp, by simp, by simp [k150, c202, c263, g270, c272, c274, c276, c278, c285, c286, k288], by simp [k150, c202, c263, g270, c272, c274, c276, c278, c285, c286, k288]⟩
      refine Walk.seq (Walk.region' rfl fun K hK => ?_)
      simp only [go_sem, seval, k150, c202, c263, g270, c272, c274, c276, c278, c285, c286]
      refine hK _ ?_
      clear hK K
      refine Walk.condO rfl hx (fun c289 hx => ?_) (fun c289 hx => ?_)
      · refine Walk.drawn' rfl mixed fun K hK => ?_
        obtain ⟨v106, h290, hx⟩ := bind_elim hx
        simp only [go_sem, seval, k150, c202, c263, g270, c272, c274, c276, c278, c285, c286, c289]
        refine VCl.sub [(0, some (.box [.d (.sl (List.map iD v1)), .d (.int .i64 v100.2)]))] [124] rfl (by simp only [go_sem, seval, AV.viewXs, AV.viewX, avD, k150, c202, c263, g270, c272, c274, c276, c278, c285, c286, c289]; try simp) (mk_Tape_Pick_ok v1 v100.2 [0, v3, -1, 10000, 3] _ h290) (by simp [k150, c202, c263, g270, c272, c274, c276, c278, c285, c286, c289]) (by simp [k150, c202, c263, g270, c272, c274, c276, c278, c285, c286, c289]) (by simp [k150, c202, c263, g270, c272, c274, c276, c278, c285, c286, c289]) (by simp [k150, c202, c263, g270, c272, c274, c276, c278, c285, c286, c289]) (by simp [k150, c202, c263, g270, c272, c274, c276, c278, c285, c286, c289]) (by simp [k150, c202, c263, g270, c272, c274, c276, c278, c285, c286, c289]) (by simp [k150, c202, c263, g270, c272, c274, c276, c278, c285, c286, c289]) (by simp [k150, c202, c263, g270, c272, c274, c276, c278, c285, c286, c289]) (by simp [k150, c202, c263, g270, c272, c274, c276, c278, c285, c286, c289]) (by simp [k150, c202, c263, g270, c272, c274, c276, c278, c285, c286, c289]) ?_
        obtain ⟨k291, hx⟩ := chk_elim hx
        simp only [go_sem, seval, k150, c202, c263, g270, c272, c274, c276, c278, c285, c286, c289, k291]
        repeat refine And.intro (by first | omega | (simp; done) | (simp; omega)) ?_
        refine hK _ _ (by kernel_rfl) (by simp [k150, c202, c263, g270, c272, c274, c276, c278, c285, c286, c289, k291]) ?_
        clear hK K
        refine Walk.weaken ⟨[(8, .box 9 0), (9, .box 10 0)], [(0, some (.box [.d (.sl (List.map iD v1)), .d (.int .i64 v106.2)])), (9, some (.box [.d (.int .i64 0), .d (.int .i64 0), .d (.str []), .nils, .nils])), (10, some (.box [.d (.int .i64 v3), .d (.int .i64 v4), .d (.str ([113] ++ v60.1)), .arr 1009 0 v78.length, .arr 1012 0 ((v96 ++ [v106.1]).length)])), (1009, some (.arr 68 6 (List.map Part.D v78))), (1012, some (.arr 3 1 (List.map iD (v96 ++ [v106.1]))))]⟩ (by simp [k150, c202, c263, g270, c272, c274, c276, c278, c285, c286, c289, k291] <;> omega) (by simp [k150, c202, c263, g270, c272, c274, c276, c278, c285, c286, c289, k291] <;> omega) ?_
        refine Walk.inBlock (Walk.seq (Walk.region' rfl fun K hK => ?_))
        simp only [go_sem, seval, k150, c202, c263, g270, c272, c274, c276, c278, c285, c286, c289, k291]
        refine hK _ ?_
        clear hK K
        refine Walk.weaken ⟨[(8, .box 9 0)], [(0, some (.box [.d (.sl (List.map iD v1)), .d (.int .i64 v106.2)])), (9, some (.box [.d (.int .i64 v3), .d (.int .i64 v4), .d (.str ([113] ++ v60.1)), .arr 1009 0 v78.length, .arr 1012 0 ((v96 ++ [v106.1]).length)])), (1009, some (.arr 68 6 (List.map Part.D v78))), (1012, some (.arr 3 1 (List.map iD (v96 ++ [v106.1]))))]⟩ (by simp [k150, c202, c263, g270, c272, c274, c276, c278, c285, c286, c289, k291] <;> omega) (by simp [k150, c202, c263, g270, c272, c274, c276, c278, c285, c286, c289, k291] <;> omega) ?_
        refine Walk.rename 9 2000 (by omega) (by omega) (by simp) (by simp) ?_
        simp only [renE, renL, AV.ren, AV.rens, AObj.ren, swp, Option.map_some, reduceIte, Nat.reduceEqDiff]
        refine Walk.rename 1009 2001 (by omega) (by omega) (by simp) (by simp) ?_
        simp only [renE, renL, AV.ren, AV.rens, AObj.ren, swp, Option.map_some, reduceIte, Nat.reduceEqDiff]
        refine Walk.rename 1012 2002 (by omega) (by omega) (by simp) (by simp) ?_
        simp only [renE, renL, AV.ren, AV.rens, AObj.ren, swp, Option.map_some, reduceIte, Nat.reduceEqDiff]
        obtain rfl := Option.some.inj hx
        exact Walk.ret ⟨2000, 0, by simp, by simp, by simp [k150, c202, c263, g270, c272, c274, c276, c278, c285, c286, c289, k291], by simp [k150, c202, c263, g270, c272, c274, c276, c278, c285, c286, c289, k291]⟩
      refine Walk.drawn' rfl mixed fun K hK => ?_
      obtain ⟨v107, r292, a293, b294, c295, hx⟩ := rd_elim hx
      obtain ⟨k296, hx⟩ := chk_elim hx
      simp only [go_sem, seval, k150, c202, c263, g270, c272, c274, c276, c278, c285, c286, c289, a293, b294, c295, k296]
      repeat refine And.intro (by first | omega | (simp; done) | (simp; omega)) ?_
      refine hK _ _ (by kernel_rfl) (by simp [k150, c202, c263, g270, c272, c274, c276, c278, c285, c286, c289, a293, b294, c295, k296]) ?_
      clear hK K
      refine Walk.weaken ⟨[(8, .box 9 0), (9, .box 10 0)], [(0, some (.box [.d (.sl (List.map iD v1)), .d (.int .i64 v100.2)])), (9, some (.box [.d (.int .i64 0), .d (.int .i64 0), .d (.str []), .nils, .nils])), (10, some (.box [.d (.int .i64 v3), .d (.int .i64 v4), .d (.str ([113] ++ v60.1)), .arr 1009 0 ((v78 ++ [v107, v107, v107, v107, v107, v107]).length), .arr 1012 0 v96.length])), (1009, some (.arr 68 6 (List.map Part.D (v78 ++ [v107, v107, v107, v107, v107, v107])))), (1012, some (.arr 3 1 (List.map iD v96)))]⟩ (by simp [k150, c202, c263, g270, c272, c274, c276, c278, c285, c286, c289, a293, b294, c295, k296] <;> omega) (by simp [k150, c202, c263, g270, c272, c274, c276, c278, c285, c286, c289, a293, b294, c295, k296] <;> omega) ?_
      refine Walk.inBlock (Walk.seq (Walk.region' rfl fun K hK => ?_))
      simp only [go_sem, seval, k150, c202, c263, g270, c272, c274, c276, c278, c285, c286, c289, a293, b294, c295, k296]
      refine hK _ ?_
      clear hK K
      refine Walk.weaken ⟨[(8, .box 9 0)], [(0, some (.box [.d (.sl (List.map iD v1)), .d (.int .i64 v100.2)])), (9, some (.box [.d (.int .i64 v3), .d (.int .i64 v4), .d (.str ([113] ++ v60.1)), .arr 1009 0 ((v78 ++ [v107, v107, v107, v107, v107, v107]).length), .arr 1012 0 v96.length])), (1009, some (.arr 68 6 (List.map Part.D (v78 ++ [v107, v107, v107, v107, v107, v107])))), (1012, some (.arr 3 1 (List.map iD v96)))]⟩ (by simp [k150, c202, c263, g270, c272, c274, c276, c278, c285, c286, c289, a293, b294, c295, k296] <;> omega) (by simp [k150, c202, c263, g270, c272, c274, c276, c278, c285, c286, c289, a293, b294, c295, k296] <;> omega) ?_
      refine Walk.rename 9 2000 (by omega) (by omega) (by simp) (by simp) ?_
      simp only [renE, renL, AV.ren, AV.rens, AObj.ren, swp, Option.map_some, reduceIte, Nat.reduceEqDiff]
      refine Walk.rename 1009 2001 (by omega) (by omega) (by simp) (by simp) ?_
      simp only [renE, renL, AV.ren, AV.rens, AObj.ren, swp, Option.map_some, reduceIte, Nat.reduceEqDiff]
      refine Walk.rename 1012 2002 (by omega) (by omega) (by simp) (by simp) ?_
      simp only [renE, renL, AV.ren, AV.rens, AObj.ren, swp, Option.map_some, reduceIte, Nat.reduceEqDiff]
      obtain rfl := Option.some.inj hx
      exact Walk.ret ⟨2000, 0, by simp, by simp, by simp [k150, c202, c263, g270, c272, c274, c276, c278, c285, c286, c289, a293, b294, c295, k296], by simp [k150, c202, c263, g270, c272, c274, c276, c278, c285, c286, c289, a293, b294, c295, k296]⟩
    refine Walk.skip (Walk.seq (Walk.region' rfl fun K hK => ?_))
    simp only [go_sem, seval, k150, c202, c263, g270, c272]
    refine hK _ ?_
    clear hK K
    refine Walk.weaken ⟨[(8, .box 9 0)], [(0, some (.box [.d (.sl (List.map iD v1)), .d (.int .i64 v99.2)])), (9, some (.box [.d (.int .i64 v3), .d (.int .i64 v4), .d (.str ([113] ++ v60.1)), .arr 1009 0 v78.length, .arr 1012 0 v96.length])), (1009, some (.arr 68 6 (List.map Part.D v78))), (1012, some (.arr 3 1 (List.map iD v96)))]⟩ (by simp [k150, c202, c263, g270, c272] <;> omega) (by simp [k150, c202, c263, g270, c272] <;> omega) ?_
    refine Walk.rename 9 2000 (by omega) (by omega) (by simp) (by simp) ?_
    simp only [renE, renL, AV.ren, AV.rens, AObj.ren, swp, Option.map_some, reduceIte, Nat.reduceEqDiff]
    refine Walk.rename 1009 2001 (by omega) (by omega) (by simp) (by simp) ?_
    simp only [renE, renL, AV.ren, AV.rens, AObj.ren, swp, Option.map_some, reduceIte, Nat.reduceEqDiff]
    refine Walk.rename 1012 2002 (by omega) (by omega) (by simp) (by simp) ?_
    simp only [renE, renL, AV.ren, AV.rens, AObj.ren, swp, Option.map_some, reduceIte, Nat.reduceEqDiff]
    obtain rfl := Option.some.inj hx
    exact Walk.ret ⟨2000, 0, by simp, by simp, by simp [k150, c202, c263, g270, c272], by simp [k150, c202, c263, g270, c272]⟩
  simp only [go_sem, seval, k150, c202, c263, g270]
  refine hK _ ?_
  clear hK K
  refine Walk.condF rfl (Walk.skip (Walk.seq (Walk.region' rfl fun K hK => ?_)))
  simp only [go_sem, seval, k150, c202, c263, g270]
  refine hK _ ?_
  clear hK K
  refine Walk.weaken ⟨[(8, .box 9 0)], [(0, some (.box [.d (.sl (List.map iD v1)), .d (.int .i64 v95)])), (9, some (.box [.d (.int .i64 v3), .d (.int .i64 v4), .d (.str ([113] ++ v60.1)), .arr 1009 0 v78.length, .arr 1012 0 v96.length])), (1009, some (.arr 68 6 (List.map Part.D v78))), (1012, some (.arr 3 1 (List.map iD v96)))]⟩ (by simp [k150, c202, c263, g270] <;> omega) (by simp [k150, c202, c263, g270] <;> omega) ?_
  refine Walk.rename 9 2000 (by omega) (by omega) (by simp) (by simp) ?_
  simp only [renE, renL, AV.ren, AV.rens, AObj.ren, swp, Option.map_some, reduceIte, Nat.reduceEqDiff]
  refine Walk.rename 1009 2001 (by omega) (by omega) (by simp) (by simp) ?_
  simp only [renE, renL, AV.ren, AV.rens, AObj.ren, swp, Option.map_some, reduceIte, Nat.reduceEqDiff]
  refine Walk.rename 1012 2002 (by omega) (by omega) (by simp) (by simp) ?_
  simp only [renE, renL, AV.ren, AV.rens, AObj.ren, swp, Option.map_some, reduceIte, Nat.reduceEqDiff]
  obtain rfl := Option.some.inj hx
  exact Walk.ret ⟨2000, 0, by simp, by simp, by simp [k150, c202, c263, g270], by simp [k150, c202, c263, g270]⟩
end Go.AX

