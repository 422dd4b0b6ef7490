import Derived.Test.YtebcedhhcpibpaaE8
set_option linter.unusedVariables false
set_option linter.unusedSimpArgs false
set_option maxRecDepth 20000
set_option maxHeartbeats 4000000
namespace Go.AX
open Go.Proofs
attribute [local simp] spl_len take_snoc take_cons_drop cons_rep cons_tail iA bA take_set_len idsL_rep idsL_iA idsL_bA idsL_sA idsL_set_mem idsL_sub sA_def List.map_replicate frVs_setS frVs_self frV_arr take_map_len subE subH eget hget upE upV upH upO_refl upO_box upVs freshE freshH freshO AV.ids AV.idsL ids_box ids_arr ids_pre idsL_room frE frV_refl frV_arr frH frO_refl frO_box frVs newOk evalA AV.viewXs AV.viewX AV.viewXP AV.viewXPs AV.viewPs AV.viewP AV.flat AV.flatL D.flat arrsOnly flatObjs newNames subOf closedIn allSome dstOk newOrOld avD avDp zv_i64 zv_u8 zv_bool zv_nils zv_nilp zv_str retAV aLoad cut TI.isAgg nlE nlH nlO_refl nlO_box nlVs nlV_refl nlV_nil iD uD bD tD lD List.map_set ti1 ti2 ti3 ti4 ti5 ti6 ti7 ti8 ti9 ti10 ti11 ti12 ti13 ti14 ti15 ti16 ti17 ti18 ti19 ti21 ti22 ti23 ti24 ti25 ti26 ti27 ti28 ti29 ti30 ti32 ti33 ti34 ti35 ti36 ti37 ti38 ti40 ti41 ti42 ti43 ti44 ti45 ti46 ti47 ti48 ti49 ti50 ti51 ti52 ti54 ti55 ti56 ti57 ti58 ti59 ti61 ti62 ti63 ti64 ti65 ti66 ti67 ti68 ti69 ti70 ti72 ti73 ti74 ti75 ti76 ti77 ti78 ti79 ti80 ti81 ti82 ti83 ti84 ti85 ti86 ti87 ti89 ti91 ti92 ti93 ti94 ti95 ti96 ti97 ti98 ti99 ti100 ti101 ti103 ti105 ti106 ti107 ti108 ti109 ti110 ti111 ti112 ti113 ti114 ti115 ti117 ti118 ti120 ti121 ti122 ti123 ti124 ti125 ti126 ti127 ti128 ti129 ti130 ti131 ti132 ti133 ti134 ti135 ti136 ti137 ti138 ti139 ti140 Row.D Node.D Part.D TItem.D Ref.D
attribute [local go_sem] V1_none V1_some V_nil V_move V_assign V_pick V_bin V_un V_extract V_makeFunc V_convert V_nilCheck V_fieldAddr V_field V_load V_store V_indexAddr V_index V_slice V_slice0 V_alloc V_box V_build V_buildSlice V_makeSlice V_len V_min V_max V_append V_copy V_call V_guard VGs_some VG_tt VG_ff VG_tf VG_ft VG_u gslot ok fail po so aNew dstOk freshU addLog_none' addLog_some' St.step putL evalA eget hget argE freshE freshO freshH AV.ids AV.idsL AV.ok1 AV.cells ids_box ids_arr liveBox liveArr isArr isObj isBoxB aPick isNilC aNilEq aBin aUn aExtract aMakeFunc aConvert aNilCheck aFieldAddr aField cut aLen aIndexAddr aMin aMax aIndex bnd isInt aSlice aSlice0 aLoad aAlloc aBox aStore splice aMake aMakeBox aCopy cellsOf cellsOfP updIds newIds zv_i64 zv_u8 zv_bool zv_nils zv_nilp cond_bool cond_int TI.isAgg TK.isSl TK.el okL avDps avDp avD List.map_cons List.map_nil List.append_nil List.nil_append List.cons_append List.length_cons List.length_nil List.take_succ_cons List.take_zero List.drop_succ_cons List.drop_zero List.take_nil List.drop_nil List.headD_cons List.getD_cons_zero List.getD_cons_succ List.mem_cons List.not_mem_nil List.getElem?_cons_zero List.getElem?_cons_succ List.toList_toArray Option.getD_some Option.getD_none Option.bind_some Option.bind_none Option.map_some Option.map_none Option.getD Option.toList Nat.zero_add Nat.add_zero Nat.zero_le Nat.le_refl if_true if_false ite_self true_and and_true false_and and_false true_or or_true false_or or_false not_true_eq_false not_false_eq_true ne_eq cond_true cond_false Bool.true_eq_false Bool.false_eq_true forall_const decide_true decide_false implies_true true_implies and_self or_self Nat.succ_ne_zero Int.toNat_natCast Int.natCast_nonneg List.length_map decide_eq_true_eq AV.views AV.view AV.viewPs AV.viewP arrsOnly newNames List.length_append List.append_assoc Bool.not_true Bool.not_false AV.ok2 aBuild fillR fillP aBuildSlice dense elP aAppend esOf esOfP List.forall_mem_cons forall_eq_or_imp forall_eq zD zDp map_take' map_drop' iD uD bD tD lD iD_len uD_len bD_len tD_len lD_len LB Int.cast_ofNat_Int Int.natCast_zero Int.natCast_one head_len all_len List.head?_cons List.head?_nil Bool.not_not eq_self List.take_length zv_str aConv byteOf isByte map_bcell bytes_all str_map cellsEq cellsP AV.kd Bool.and_true Bool.true_and Bool.and_false Bool.false_and spl_map spl_len mkbox_i mkbox_b flat_iD dataL_iA dataL_bA zv_u64 flat_iD' flat_len dataL_tA dataL_ttA spl_mt spl_mtt mkbox_s splice_one take_cons_drop cons_rep cons_tail hd_set hd_set0 List.length_replicate iA bA sA_def List.set_set List.length_set idsL_iA idsL_bA idsL_sA idsL_setE idsL_rep List.append_eq Nat.mul_one ids_pre idsL_room appBox_full appBox_room pre_iA one_iD List.flatten_cons List.flatten_nil ti1 ti2 ti3 ti4 ti5 ti6 ti7 ti8 ti9 ti10 ti11 ti12 ti13 ti14 ti15 ti16 ti17 ti18 ti19 ti21 ti22 ti23 ti24 ti25 ti26 ti27 ti28 ti29 ti30 ti32 ti33 ti34 ti35 ti36 ti37 ti38 ti40 ti41 ti42 ti43 ti44 ti45 ti46 ti47 ti48 ti49 ti50 ti51 ti52 ti54 ti55 ti56 ti57 ti58 ti59 ti61 ti62 ti63 ti64 ti65 ti66 ti67 ti68 ti69 ti70 ti72 ti73 ti74 ti75 ti76 ti77 ti78 ti79 ti80 ti81 ti82 ti83 ti84 ti85 ti86 ti87 ti89 ti91 ti92 ti93 ti94 ti95 ti96 ti97 ti98 ti99 ti100 ti101 ti103 ti105 ti106 ti107 ti108 ti109 ti110 ti111 ti112 ti113 ti114 ti115 ti117 ti118 ti120 ti121 ti122 ti123 ti124 ti125 ti126 ti127 ti128 ti129 ti130 ti131 ti132 ti133 ti134 ti135 ti136 ti137 ti138 ti139 ti140 Row.D Node.D Part.D TItem.D Ref.D Row.D_len Node.D_len Part.D_len TItem.D_len Ref.D_len zs_ zs_48_49_50_51_52_53_54_55_56_57_48_49_50_51_52_53_54_55_56_57_48_49_50_51_52_53_54_55_56_57_48_49_50_51_52_53_54_55_56_57_120 zs_113 zs_116_97_98_9 eqf74_00
noncomputable def law10_AssemblyNext_j0 (v69 : List (List Int) × Int) (v129 : List (List Int)) : Option (Bool) :=
  bif decide ((v129.length : Int) = (v69.1.length : Int)) then ((law10_awake).bind fun v130 => some (v130 : Bool)) else (some (false : Bool))
noncomputable def law10_AssemblyNext_l2 (v135 : List (List Int)) (v165 : Int × Bool × List Int × Int × List Node) (v138 : List Int) (v139 : List Row) (v137 : Int) (v184 : Int) : Option ((Int) ⊕ ((List (List Int) × Int × Int × List Int × List Row) ⊕ (Bool))) :=
  bif decide (v184 < (v135.length : Int)) then ((rd v135 v184).bind fun v187 => (ref06_Ints v187 v165.2.2.1).bind fun v188 => bif v188 then (exitO (exitO (some (false : Bool)))) else (contO (IntKind.i64.wrap (v184 + 1) : Int))) else (exitO (chk ((v135.length + 1) * 24 ≤ 140737488355328) ((assembly_Repeat v138 v139 v165.2.1 v165.2.2.1 v165.2.2.2.1 v165.2.2.2.2).bind fun v189 => bif decide (¬ v189.1 = 0) then (exitO (some (false : Bool))) else (contO (((v135 ++ [v165.2.2.1]), v165.2.2.2.1, IntKind.i64.wrap (v137 + 1), v189.2.1, v189.2.2) : List (List Int) × Int × Int × List Int × List Row)))))
noncomputable def law10_AssemblyNext_l1 (v69 : List (List Int) × Int) (v68 : Int × List Row × List Int) (v135 : List (List Int)) (v136 : Int) (v137 : Int) (v138 : List Int) (v139 : List Row) : Option ((List (List Int) × Int × Int × List Int × List Row) ⊕ (Bool)) :=
  bif decide (v137 ≤ (v69.1.length : Int)) then ((assembly_Solve v138 v139).bind fun v165 => bif decide (¬ v165.1 = 0) then (exitO (some (false : Bool))) else (bif !(v165.2.1 == (decide (v137 < (v69.1.length : Int)))) then (exitO (some (false : Bool))) else (bif !v165.2.1 then (exitO (law10_AssemblyNext_j0 v69 v135)) else (bif decide (v165.2.2.2.1 < v136) then (exitO (some (false : Bool))) else ((blueprint_Meets v68.2.2 v68.2.1 v165.2.2.1).bind fun v167 => bif !v167 then (exitO (some (false : Bool))) else (iter (fun g : Int => law10_AssemblyNext_l2 v135 v165 v138 v139 v137 g) 0)))))) else (exitO (law10_AssemblyNext_j0 v69 v135))
noncomputable def law10_AssemblyNext (v1 : List Int) : Option (Bool) :=
  (mk_New v1).bind fun v67 => (mk_Tape_Program v67 0 4 0).bind fun v68 => (assembly_All v68.2.2 v68.2.1).bind fun v69 => bif decide (¬ v69.2 = 0) then (some (false : Bool)) else (iter (fun g : List (List Int) × Int × Int × List Int × List Row => law10_AssemblyNext_l1 v69 v68 g.1 g.2.1 g.2.2.1 g.2.2.2.1 g.2.2.2.2) ([], 0, 0, v68.2.2, v68.2.1))
theorem law10_AssemblyNext_ok (v1 : List Int) (r : Bool) (hx : law10_AssemblyNext v1 = some r) :
    ACalls Try.prog 8 [.d (.sl (List.map iD v1))] [] (.d (.bool r)) [] := by
  refine ACalls.of_sem (n := 99) 0 [2] (fn := Try.f8) Try.func8 rfl rfl (.one rfl) rfl (by simp) (by intro i; simp only [hget]; (repeat' split) <;> simp <;> omega) ?_
  unfold law10_AssemblyNext at hx
  refine Walk.seq (Walk.region' rfl fun K hK => ?_)
  simp only [go_sem, seval]
  refine hK _ ?_
  clear hK K
  refine Walk.seq (Walk.region' rfl fun K hK => ?_)
  obtain ⟨v67, h287, hx⟩ := bind_elim hx
  have w288 := ((mk_New_ok v1 _ h287).swap 2000 1015)
  simp only [renE, renL, AV.ren, AV.rens, AObj.ren, swp, Option.map_some, reduceIte, Nat.reduceEqDiff] at w288
  simp only [go_sem, seval]
  refine VCl.sub [] [] rfl (by simp only [go_sem, seval, AV.viewXs, AV.viewX, avD]; try simp) (w288) (by simp) (by simp) (by simp) (by simp) (by simp) (by simp) (by simp) (by simp) (by simp) (by simp) ?_
  obtain ⟨v68, h289, hx⟩ := bind_elim hx
  have w290 := ((((mk_Tape_Program_ok v67 0 4 0 _ h289).swap 0 1015).swap 2001 1016).swap 2002 1017)
  simp only [renE, renL, AV.ren, AV.rens, AObj.ren, swp, Option.map_some, reduceIte, Nat.reduceEqDiff] at w290
  simp only [go_sem, seval]
  refine VCl.sub [(1015, some (.box [.d (.sl (List.map iD v67)), .d (.int .i64 0)]))] [] rfl (by simp only [go_sem, seval, AV.viewXs, AV.viewX, avD]; try simp) (w290) (by simp) (by simp) (by simp) (by simp) (by simp) (by simp) (by simp) (by simp) (by simp) (by simp) ?_
  simp only [go_sem, seval]
  refine hK _ ?_
  clear hK K
  refine Walk.weaken ⟨[(3, .box 3 0)], [(3, some (.box [.arr 1016 0 v68.2.2.length, .arr 1017 0 v68.2.1.length])), (1016, some (.arr 3 1 (List.map iD v68.2.2))), (1017, some (.arr 47 3 (List.map Row.D v68.2.1)))]⟩ (by simp <;> omega) (by simp <;> omega) ?_
  refine Walk.seq ?_
  refine Walk.weaken ⟨[(3, .box 3 0)], [(3, some (.box [.arr 1016 0 v68.2.2.length, .arr 1017 0 v68.2.1.length])), (1016, some (.arr 3 1 (List.map iD v68.2.2))), (1017, some (.arr 47 3 (List.map Row.D v68.2.1)))]⟩ (by simp <;> omega) (by simp <;> omega) ?_
  refine Walk.freeze 1016 3 1 (List.map iD v68.2.2) [(3, .box 3 0)] [(3, some (.box [.d (.sl (List.map iD v68.2.2)), .arr 1017 0 v68.2.1.length])), (1017, some (.arr 47 3 (List.map Row.D v68.2.1)))] (by simp) (by simp) (by simp) ?_
  refine Walk.weaken ⟨[(3, .box 3 0)], [(3, some (.box [.d (.sl (List.map iD v68.2.2)), .arr 1017 0 v68.2.1.length])), (1017, some (.arr 47 3 (List.map Row.D v68.2.1)))]⟩ (by simp <;> omega) (by simp <;> omega) ?_
  refine Walk.freeze 1017 47 3 (List.map Row.D v68.2.1) [(3, .box 3 0)] [(3, some (.box [.d (.sl (List.map iD v68.2.2)), .d (.sl (List.map Row.D v68.2.1))]))] (by simp) (by simp) (by simp) ?_
  refine Walk.region' rfl fun K hK => ?_
  obtain ⟨v69, h291, hx⟩ := bind_elim hx
  have w292 := ((assembly_All_ok v68.2.2 v68.2.1 _ h291).swap 2000 1018)
  simp only [renE, renL, AV.ren, AV.rens, AObj.ren, swp, Option.map_some, reduceIte, Nat.reduceEqDiff] at w292
  simp only [go_sem, seval]
  refine VCl.pure rfl (by simp only [go_sem, seval]; try simp) (w292) (by simp only [go_sem, seval]; try simp) (by simp only [go_sem, seval]; try simp) (by simp only [go_sem, seval]; try simp) (by simp only [go_sem, seval]; try simp) (by simp only [go_sem, seval]; try simp) (by simp only [go_sem, seval]; try simp) ?_
  simp only [go_sem, seval]
  refine hK _ ?_
  clear hK K
  refine Walk.weaken ⟨[(3, .box 3 0), (4, .arr 1018 0 v69.1.length), (5, .d (.int .i64 v69.2))], [(3, some (.box [.d (.sl (List.map iD v68.2.2)), .d (.sl (List.map Row.D v68.2.1))])), (1018, some (.arr 22 1 (List.map (lD iD) v69.1)))]⟩ (by simp <;> omega) (by simp <;> omega) ?_
  refine Walk.seq (Walk.seq (Walk.region' rfl fun K hK => ?_))
  simp only [go_sem, seval]
  refine hK _ ?_
  clear hK K
  refine Walk.condO rfl hx (fun c295 hx => ?_) (fun c295 hx => ?_)
  · refine Walk.seq (Walk.region' rfl fun K hK => ?_)
    simp only [go_sem, seval, c295]
    refine hK _ ?_
    clear hK K
    obtain rfl := Option.some.inj hx
    exact Walk.ret ⟨by simp [c295], by simp [c295]⟩
  refine Walk.skip (Walk.seq (Walk.region' rfl fun K hK => ?_))
  simp only [go_sem, seval, c295]
  refine hK _ ?_
  clear hK K
  refine Walk.seq (Walk.region' rfl fun K hK => ?_)
  simp only [go_sem, seval, c295]
  refine hK _ ?_
  clear hK K
  refine Walk.seq (Walk.region' rfl fun K hK => ?_)
  simp only [go_sem, seval, c295]
  refine hK _ ?_
  clear hK K
  refine Walk.seq (Walk.join (G := List (List Int)) (fun g => ⟨[(4, .arr 1018 0 v69.1.length), (7, .arr 1022 0 g.length)], [(1018, some (.arr 22 1 (List.map (lD iD) v69.1))), (1022, some (.arr 22 1 (List.map (lD iD) g)))]⟩) (fun g => law10_AssemblyNext_j0 v69 g) hx (fun v129 hx => ?_) (fun fin571 => ?_))
  · unfold law10_AssemblyNext_j0 at hx
    try dsimp only at hx ⊢
    refine Walk.seq (Walk.region' rfl fun K hK => ?_)
    simp only [go_sem, seval, c295]
    refine VGdO hx (fun g572 hx => ?_) (fun g572 hx => ?_)
    · obtain ⟨v130, h573, hx⟩ := bind_elim hx
      simp only [go_sem, seval, c295, g572]
      refine VCl.pure rfl (by simp only [go_sem, seval, c295, g572]; try simp) (law10_awake_ok _ h573) (by simp only [go_sem, seval, c295, g572]; try simp) (by simp only [go_sem, seval, c295, g572]; try simp) (by simp only [go_sem, seval, c295, g572]; try simp) (by simp only [go_sem, seval, c295, g572]; try simp) (by simp only [go_sem, seval, c295, g572]; try simp) (by simp only [go_sem, seval, c295, g572]; try simp) ?_
      simp only [go_sem, seval, c295, g572]
      refine hK _ ?_
      clear hK K
      obtain rfl := Option.some.inj hx
      exact Walk.ret ⟨by simp [c295, g572], by simp [c295, g572]⟩
    simp only [go_sem, seval, c295, g572]
    refine hK _ ?_
    clear hK K
    obtain rfl := Option.some.inj hx
    exact Walk.ret ⟨by simp [c295, g572], by simp [c295, g572]⟩
  refine Walk.seq (Walk.region' rfl fun K hK => ?_)
  simp only [go_sem, seval, c295]
  refine hK _ ?_
  clear hK K
  refine Walk.block (Walk.loop ?_)
  refine Walk.weaken ⟨[(3, .box 3 0), (4, .arr 1018 0 v69.1.length), (6, .box 6 0), (7, .nils), (8, .d (.int .i64 0)), (9, .d (.int .i64 0))], [(3, some (.box [.d (.sl (List.map iD v68.2.2)), .d (.sl (List.map Row.D v68.2.1))])), (6, some (.box [.d (.sl (List.map iD v68.2.2)), .d (.sl (List.map Row.D v68.2.1))])), (1018, some (.arr 22 1 (List.map (lD iD) v69.1)))]⟩ (by simp [c295] <;> omega) (by simp [c295] <;> omega) ?_
  refine Walk.up 1032 22 1 [(3, .box 3 0), (4, .arr 1018 0 v69.1.length), (6, .box 6 0), (7, .arr 1032 0 0), (8, .d (.int .i64 0)), (9, .d (.int .i64 0))] [(3, some (.box [.d (.sl (List.map iD v68.2.2)), .d (.sl (List.map Row.D v68.2.1))])), (6, some (.box [.d (.sl (List.map iD v68.2.2)), .d (.sl (List.map Row.D v68.2.1))])), (1018, some (.arr 22 1 (List.map (lD iD) v69.1)))] (by simp) (by simp) (by omega) (by simp) (by simp) (by simp) ?_
  refine Walk.weaken ⟨[(3, .box 3 0), (4, .arr 1018 0 v69.1.length), (6, .box 6 0), (7, .arr 1032 0 0), (8, .d (.int .i64 0)), (9, .d (.int .i64 0))], [(3, some (.box [.d (.sl (List.map iD v68.2.2)), .d (.sl (List.map Row.D v68.2.1))])), (6, some (.box [.d (.sl (List.map iD v68.2.2)), .d (.sl (List.map Row.D v68.2.1))])), (1018, some (.arr 22 1 (List.map (lD iD) v69.1))), (1032, some (.arr 22 1 (List.map (lD iD) [])))]⟩ (by simp [c295] <;> omega) (by simp [c295] <;> omega) ?_
  refine Walk.iter (σ := List (List Int) × Int × Int × List Int × List Row) (fun g => ⟨[(3, .box 3 0), (4, .arr 1018 0 v69.1.length), (6, .box 6 0), (7, .arr 1032 0 g.1.length), (8, .d (.int .i64 g.2.1)), (9, .d (.int .i64 g.2.2.1))], [(3, some (.box [.d (.sl (List.map iD v68.2.2)), .d (.sl (List.map Row.D v68.2.1))])), (6, some (.box [.d (.sl (List.map iD g.2.2.2.1)), .d (.sl (List.map Row.D g.2.2.2.2))])), (1018, some (.arr 22 1 (List.map (lD iD) v69.1))), (1032, some (.arr 22 1 (List.map (lD iD) g.1)))]⟩) (fun g : List (List Int) × Int × Int × List Int × List Row => law10_AssemblyNext_l1 v69 v68 g.1 g.2.1 g.2.2.1 g.2.2.2.1 g.2.2.2.2) _ (fun g y864 hx ih726 hr727 => ?_) ([], 0, 0, v68.2.2, v68.2.1) hx
  obtain ⟨v135, v136, v137, v138, v139⟩ := g
  unfold law10_AssemblyNext_l1 at hx
  try dsimp only at hx ⊢
  refine Walk.seq (Walk.seq (Walk.region' rfl fun K hK => ?_))
  simp only [go_sem, seval, c295]
  refine hK _ ?_
  clear hK K
  refine Walk.condO rfl hx (fun c730 hx => ?_) (fun c730 hx => ?_)
  · refine Walk.skip (Walk.seq (Walk.block (Walk.seq (Walk.region' rfl fun K hK => ?_))))
    obtain ⟨v165, h731, hx⟩ := bind_elim hx
    have w732 := ((assembly_Solve_ok v138 v139 _ h731).swap 2001 1036)
    simp only [renE, renL, AV.ren, AV.rens, AObj.ren, swp, Option.map_some, reduceIte, Nat.reduceEqDiff] at w732
    simp only [go_sem, seval, c295, c730]
    refine VCl.pure rfl (by simp only [go_sem, seval, c295, c730]; try simp) (w732) (by simp only [go_sem, seval, c295, c730]; try simp) (by simp only [go_sem, seval, c295, c730]; try simp) (by simp only [go_sem, seval, c295, c730]; try simp) (by simp only [go_sem, seval, c295, c730]; try simp) (by simp only [go_sem, seval, c295, c730]; try simp) (by simp only [go_sem, seval, c295, c730]; try simp) ?_
    simp only [go_sem, seval, c295, c730]
    refine hK _ ?_
    clear hK K
    refine Walk.weaken ⟨[(3, .box 3 0), (4, .arr 1018 0 v69.1.length), (6, .box 6 0), (7, .arr 1032 0 v135.length), (8, .d (.int .i64 v136)), (9, .d (.int .i64 v137)), (10, .box 10 0), (11, .d (.int .i64 v165.1))], [(3, some (.box [.d (.sl (List.map iD v68.2.2)), .d (.sl (List.map Row.D v68.2.1))])), (6, some (.box [.d (.sl (List.map iD v138)), .d (.sl (List.map Row.D v139))])), (10, some (.box [.d (.bool v165.2.1), .d (.sl (List.map iD v165.2.2.1)), .d (.int .i64 v165.2.2.2.1), .arr 1036 0 v165.2.2.2.2.length])), (1018, some (.arr 22 1 (List.map (lD iD) v69.1))), (1032, some (.arr 22 1 (List.map (lD iD) v135))), (1036, some (.arr 86 7 (List.map Node.D v165.2.2.2.2)))]⟩ (by simp [c295, c730] <;> omega) (by simp [c295, c730] <;> omega) ?_
    refine Walk.seq (Walk.seq (Walk.region' rfl fun K hK => ?_))
    simp only [go_sem, seval, c295, c730]
    refine VGdO hx (fun g735 hx => ?_) (fun g735 hx => ?_)
    · simp only [go_sem, seval, c295, c730, g735]
      refine hK _ ?_
      clear hK K
      refine Walk.condT rfl (Walk.seq (Walk.region' rfl fun K hK => ?_))
      simp only [go_sem, seval, c295, c730, g735]
      refine hK _ ?_
      clear hK K
      obtain ⟨z736, e737, hx⟩ := exit_elim hx
      rw [hr727 z736 e737] at hx
      obtain rfl := Option.some.inj hx
      exact Walk.ret ⟨by simp [c295, c730, g735], by simp [c295, c730, g735]⟩
    simp only [go_sem, seval, c295, c730, g735]
    refine hK _ ?_
    clear hK K
    refine Walk.condO rfl hx (fun c739 hx => ?_) (fun c739 hx => ?_)
    · refine Walk.seq (Walk.region' rfl fun K hK => ?_)
      simp only [go_sem, seval, c295, c730, g735, c739]
      refine hK _ ?_
      clear hK K
      obtain ⟨z740, e741, hx⟩ := exit_elim hx
      rw [hr727 z740 e741] at hx
      obtain rfl := Option.some.inj hx
      exact Walk.ret ⟨by simp [c295, c730, g735, c739], by simp [c295, c730, g735, c739]⟩
    refine Walk.skip (Walk.seq (Walk.seq (Walk.region' rfl fun K hK => ?_)))
    simp only [go_sem, seval, c295, c730, g735, c739]
    refine hK _ ?_
    clear hK K
    refine Walk.condO rfl hx (fun c744 hx => ?_) (fun c744 hx => ?_)
    · refine Walk.exit rfl ?_
      obtain ⟨z745, e746, hx⟩ := exit_elim hx
      rw [hr727 z745 e746] at hx
      refine Walk.weaken ⟨[(4, .arr 1018 0 v69.1.length), (7, .arr 1032 0 v135.length)], [(1018, some (.arr 22 1 (List.map (lD iD) v69.1))), (1032, some (.arr 22 1 (List.map (lD iD) v135)))]⟩ (by simp [c295, c730, g735, c739, c744] <;> omega) (by simp [c295, c730, g735, c739, c744] <;> omega) ?_
      refine Walk.rename 1032 1022 (by omega) (by omega) (by simp) (by simp) ?_
      simp only [renE, renL, AV.ren, AV.rens, AObj.ren, swp, Option.map_some, reduceIte, Nat.reduceEqDiff]
      exact Walk.weaken _ (by simp [c295, c730, g735, c739, c744] <;> omega) (by simp [c295, c730, g735, c739, c744] <;> omega) (fin571 v135 hx)
    refine Walk.skip (Walk.seq (Walk.seq (Walk.region' rfl fun K hK => ?_)))
    simp only [go_sem, seval, c295, c730, g735, c739, c744]
    refine VGdO hx (fun g750 hx => ?_) (fun g750 hx => ?_)
    · simp only [go_sem, seval, c295, c730, g735, c739, c744, g750]
      refine hK _ ?_
      clear hK K
      refine Walk.condT rfl (Walk.seq (Walk.region' rfl fun K hK => ?_))
      simp only [go_sem, seval, c295, c730, g735, c739, c744, g750]
      refine hK _ ?_
      clear hK K
      obtain ⟨z751, e752, hx⟩ := exit_elim hx
      rw [hr727 z751 e752] at hx
      obtain rfl := Option.some.inj hx
      exact Walk.ret ⟨by simp [c295, c730, g735, c739, c744, g750], by simp [c295, c730, g735, c739, c744, g750]⟩
    obtain ⟨v167, h753, hx⟩ := bind_elim hx
    simp only [go_sem, seval, c295, c730, g735, c739, c744, g750]
    refine VCl.pure rfl (by simp only [go_sem, seval, c295, c730, g735, c739, c744, g750]; try simp) (blueprint_Meets_ok v68.2.2 v68.2.1 v165.2.2.1 _ h753) (by simp only [go_sem, seval, c295, c730, g735, c739, c744, g750]; try simp) (by simp only [go_sem, seval, c295, c730, g735, c739, c744, g750]; try simp) (by simp only [go_sem, seval, c295, c730, g735, c739, c744, g750]; try simp) (by simp only [go_sem, seval, c295, c730, g735, c739, c744, g750]; try simp) (by simp only [go_sem, seval, c295, c730, g735, c739, c744, g750]; try simp) (by simp only [go_sem, seval, c295, c730, g735, c739, c744, g750]; try simp) ?_
    simp only [go_sem, seval, c295, c730, g735, c739, c744, g750]
    refine hK _ ?_
    clear hK K
    refine Walk.condO rfl hx (fun c755 hx => ?_) (fun c755 hx => ?_)
    · refine Walk.seq (Walk.region' rfl fun K hK => ?_)
      simp only [go_sem, seval, c295, c730, g735, c739, c744, g750, c755]
      refine hK _ ?_
      clear hK K
      obtain ⟨z756, e757, hx⟩ := exit_elim hx
      rw [hr727 z756 e757] at hx
      obtain rfl := Option.some.inj hx
      exact Walk.ret ⟨by simp [c295, c730, g735, c739, c744, g750, c755], by simp [c295, c730, g735, c739, c744, g750, c755]⟩
    refine Walk.skip (Walk.seq (Walk.seq (Walk.region' rfl fun K hK => ?_)))
    simp only [go_sem, seval, c295, c730, g735, c739, c744, g750, c755]
    refine hK _ ?_
    clear hK K
    refine Walk.block (Walk.loop ?_)
    refine Walk.weaken ⟨[(3, .box 3 0), (4, .arr 1018 0 v69.1.length), (6, .box 6 0), (7, .arr 1032 0 v135.length), (9, .d (.int .i64 v137)), (10, .box 10 0), (12, .d (.int .i64 0))], [(3, some (.box [.d (.sl (List.map iD v68.2.2)), .d (.sl (List.map Row.D v68.2.1))])), (6, some (.box [.d (.sl (List.map iD v138)), .d (.sl (List.map Row.D v139))])), (10, some (.box [.d (.bool v165.2.1), .d (.sl (List.map iD v165.2.2.1)), .d (.int .i64 v165.2.2.2.1), .arr 1036 0 v165.2.2.2.2.length])), (1018, some (.arr 22 1 (List.map (lD iD) v69.1))), (1032, some (.arr 22 1 (List.map (lD iD) v135))), (1036, some (.arr 86 7 (List.map Node.D v165.2.2.2.2)))]⟩ (by simp [c295, c730, g735, c739, c744, g750, c755] <;> omega) (by simp [c295, c730, g735, c739, c744, g750, c755] <;> omega) ?_
    refine Walk.iter (σ := Int) (fun g => ⟨[(3, .box 3 0), (4, .arr 1018 0 v69.1.length), (6, .box 6 0), (7, .arr 1032 0 v135.length), (9, .d (.int .i64 v137)), (10, .box 10 0), (12, .d (.int .i64 g))], [(3, some (.box [.d (.sl (List.map iD v68.2.2)), .d (.sl (List.map Row.D v68.2.1))])), (6, some (.box [.d (.sl (List.map iD v138)), .d (.sl (List.map Row.D v139))])), (10, some (.box [.d (.bool v165.2.1), .d (.sl (List.map iD v165.2.2.1)), .d (.int .i64 v165.2.2.2.1), .arr 1036 0 v165.2.2.2.2.length])), (1018, some (.arr 22 1 (List.map (lD iD) v69.1))), (1032, some (.arr 22 1 (List.map (lD iD) v135))), (1036, some (.arr 86 7 (List.map Node.D v165.2.2.2.2)))]⟩) (fun g : Int => law10_AssemblyNext_l2 v135 v165 v138 v139 v137 g) _ (fun v184 y861 hx ih838 hr839 => ?_) 0 hx
    unfold law10_AssemblyNext_l2 at hx
    try dsimp only at hx ⊢
    refine Walk.seq (Walk.seq (Walk.region' rfl fun K hK => ?_))
    simp only [go_sem, seval, c295, c730, g735, c739, c744, g750, c755]
    refine hK _ ?_
    clear hK K
    refine Walk.condO rfl hx (fun c842 hx => ?_) (fun c842 hx => ?_)
    · refine Walk.skip (Walk.seq (Walk.block (Walk.seq (Walk.drawn' rfl mixed fun K hK => ?_))))
      obtain ⟨v187, r843, a844, b845, c846, hx⟩ := rd_elim hx
      obtain ⟨v188, h847, hx⟩ := bind_elim hx
      simp only [go_sem, seval, c295, c730, g735, c739, c744, g750, c755, c842, a844, b845, c846]
      repeat refine And.intro (by first | omega | (simp; done) | (simp; omega)) ?_
      refine VCl.pure rfl (by simp only [go_sem, seval, c295, c730, g735, c739, c744, g750, c755, c842, a844, b845, c846]; try simp) (ref06_Ints_ok v187 v165.2.2.1 _ h847) (by simp only [go_sem, seval, c295, c730, g735, c739, c744, g750, c755, c842, a844, b845, c846]; try simp) (by simp only [go_sem, seval, c295, c730, g735, c739, c744, g750, c755, c842, a844, b845, c846]; try simp) (by simp only [go_sem, seval, c295, c730, g735, c739, c744, g750, c755, c842, a844, b845, c846]; try simp) (by simp only [go_sem, seval, c295, c730, g735, c739, c744, g750, c755, c842, a844, b845, c846]; try simp) (by simp only [go_sem, seval, c295, c730, g735, c739, c744, g750, c755, c842, a844, b845, c846]; try simp) (by simp only [go_sem, seval, c295, c730, g735, c739, c744, g750, c755, c842, a844, b845, c846]; try simp) ?_
      simp only [go_sem, seval, c295, c730, g735, c739, c744, g750, c755, c842, a844, b845, c846]
      refine hK _ _ (by kernel_rfl) (by simp [c295, c730, g735, c739, c744, g750, c755, c842, a844, b845, c846]) ?_
      clear hK K
      refine Walk.condO rfl hx (fun c848 hx => ?_) (fun c848 hx => ?_)
      · refine Walk.seq (Walk.region' rfl fun K hK => ?_)
        simp only [go_sem, seval, c295, c730, g735, c739, c744, g750, c755, c842, a844, b845, c846, c848]
        refine hK _ ?_
        clear hK K
        obtain ⟨z849, e850, hx⟩ := exit_elim hx
        rw [hr839 z849 e850] at hx
        obtain ⟨z851, e852, hx⟩ := exit_elim hx
        rw [hr727 z851 e852] at hx
        obtain rfl := Option.some.inj hx
        exact Walk.ret ⟨by simp [c295, c730, g735, c739, c744, g750, c755, c842, a844, b845, c846, c848], by simp [c295, c730, g735, c739, c744, g750, c755, c842, a844, b845, c846, c848]⟩
      refine Walk.skip (Walk.inBlock (Walk.region' rfl fun K hK => ?_))
      simp only [go_sem, seval, c295, c730, g735, c739, c744, g750, c755, c842, a844, b845, c846, c848]
      refine hK _ ?_
      clear hK K
      exact Walk.weaken _ (by simp [c295, c730, g735, c739, c744, g750, c755, c842, a844, b845, c846, c848] <;> omega) (by simp [c295, c730, g735, c739, c744, g750, c755, c842, a844, b845, c846, c848] <;> omega) (ih838 _ (cont_elim hx))
    refine Walk.exit rfl ?_
    obtain ⟨z853, e854, hx⟩ := exit_elim hx
    rw [hr839 z853 e854] at hx
    refine Walk.seq (Walk.drawn' rfl mixed fun K hK => ?_)
    obtain ⟨k855, hx⟩ := chk_elim hx
    simp only [go_sem, seval, c295, c730, g735, c739, c744, g750, c755, c842, k855]
    repeat refine And.intro (by first | omega | (simp; done) | (simp; omega)) ?_
    refine hK _ _ (by kernel_rfl) (by simp [c295, c730, g735, c739, c744, g750, c755, c842, k855]) ?_
    clear hK K
    refine Walk.weaken ⟨[(3, .box 3 0), (4, .arr 1018 0 v69.1.length), (6, .box 6 0), (7, .arr 1032 0 ((v135 ++ [v165.2.2.1]).length)), (8, .d (.int .i64 v165.2.2.2.1)), (9, .d (.int .i64 v137)), (10, .box 10 0)], [(3, some (.box [.d (.sl (List.map iD v68.2.2)), .d (.sl (List.map Row.D v68.2.1))])), (6, some (.box [.d (.sl (List.map iD v138)), .d (.sl (List.map Row.D v139))])), (10, some (.box [.d (.bool v165.2.1), .d (.sl (List.map iD v165.2.2.1)), .d (.int .i64 v165.2.2.2.1), .arr 1036 0 v165.2.2.2.2.length])), (1018, some (.arr 22 1 (List.map (lD iD) v69.1))), (1032, some (.arr 22 1 (List.map (lD iD) (v135 ++ [v165.2.2.1])))), (1036, some (.arr 86 7 (List.map Node.D v165.2.2.2.2)))]⟩ (by simp [c295, c730, g735, c739, c744, g750, c755, c842, k855] <;> omega) (by simp [c295, c730, g735, c739, c744, g750, c755, c842, k855] <;> omega) ?_
    refine Walk.seq ?_
    refine Walk.weaken ⟨[(3, .box 3 0), (4, .arr 1018 0 v69.1.length), (6, .box 6 0), (7, .arr 1032 0 ((v135 ++ [v165.2.2.1]).length)), (8, .d (.int .i64 v165.2.2.2.1)), (9, .d (.int .i64 v137)), (10, .box 10 0)], [(3, some (.box [.d (.sl (List.map iD v68.2.2)), .d (.sl (List.map Row.D v68.2.1))])), (6, some (.box [.d (.sl (List.map iD v138)), .d (.sl (List.map Row.D v139))])), (10, some (.box [.d (.bool v165.2.1), .d (.sl (List.map iD v165.2.2.1)), .d (.int .i64 v165.2.2.2.1), .arr 1036 0 v165.2.2.2.2.length])), (1018, some (.arr 22 1 (List.map (lD iD) v69.1))), (1032, some (.arr 22 1 (List.map (lD iD) (v135 ++ [v165.2.2.1])))), (1036, some (.arr 86 7 (List.map Node.D v165.2.2.2.2)))]⟩ (by simp [c295, c730, g735, c739, c744, g750, c755, c842, k855] <;> omega) (by simp [c295, c730, g735, c739, c744, g750, c755, c842, k855] <;> omega) ?_
    refine Walk.freeze 1036 86 7 (List.map Node.D v165.2.2.2.2) [(3, .box 3 0), (4, .arr 1018 0 v69.1.length), (6, .box 6 0), (7, .arr 1032 0 ((v135 ++ [v165.2.2.1]).length)), (8, .d (.int .i64 v165.2.2.2.1)), (9, .d (.int .i64 v137)), (10, .box 10 0)] [(3, some (.box [.d (.sl (List.map iD v68.2.2)), .d (.sl (List.map Row.D v68.2.1))])), (6, some (.box [.d (.sl (List.map iD v138)), .d (.sl (List.map Row.D v139))])), (10, some (.box [.d (.bool v165.2.1), .d (.sl (List.map iD v165.2.2.1)), .d (.int .i64 v165.2.2.2.1), .d (.sl (List.map Node.D v165.2.2.2.2))])), (1018, some (.arr 22 1 (List.map (lD iD) v69.1))), (1032, some (.arr 22 1 (List.map (lD iD) (v135 ++ [v165.2.2.1]))))] (by simp) (by simp) (by simp) ?_
    refine Walk.region' rfl fun K hK => ?_
    obtain ⟨v189, h856, hx⟩ := bind_elim hx
    have w857 := (((assembly_Repeat_ok v138 v139 v165.2.1 v165.2.2.1 v165.2.2.2.1 v165.2.2.2.2 _ h856).swap 2001 1037).swap 2002 1038)
    simp only [renE, renL, AV.ren, AV.rens, AObj.ren, swp, Option.map_some, reduceIte, Nat.reduceEqDiff] at w857
    simp only [go_sem, seval, c295, c730, g735, c739, c744, g750, c755, c842, k855]
    refine VCl.pure rfl (by simp only [go_sem, seval, c295, c730, g735, c739, c744, g750, c755, c842, k855]; try simp) (w857) (by simp only [go_sem, seval, c295, c730, g735, c739, c744, g750, c755, c842, k855]; try simp) (by simp only [go_sem, seval, c295, c730, g735, c739, c744, g750, c755, c842, k855]; try simp) (by simp only [go_sem, seval, c295, c730, g735, c739, c744, g750, c755, c842, k855]; try simp) (by simp only [go_sem, seval, c295, c730, g735, c739, c744, g750, c755, c842, k855]; try simp) (by simp only [go_sem, seval, c295, c730, g735, c739, c744, g750, c755, c842, k855]; try simp) (by simp only [go_sem, seval, c295, c730, g735, c739, c744, g750, c755, c842, k855]; try simp) ?_
    simp only [go_sem, seval, c295, c730, g735, c739, c744, g750, c755, c842, k855]
    refine hK _ ?_
    clear hK K
    refine Walk.weaken ⟨[(3, .box 3 0), (4, .arr 1018 0 v69.1.length), (6, .box 6 0), (7, .arr 1032 0 ((v135 ++ [v165.2.2.1]).length)), (8, .d (.int .i64 v165.2.2.2.1)), (9, .d (.int .i64 v137)), (13, .box 13 0), (14, .d (.int .i64 v189.1))], [(3, some (.box [.d (.sl (List.map iD v68.2.2)), .d (.sl (List.map Row.D v68.2.1))])), (6, some (.box [.d (.sl (List.map iD v138)), .d (.sl (List.map Row.D v139))])), (13, some (.box [.arr 1037 0 v189.2.1.length, .arr 1038 0 v189.2.2.length])), (1018, some (.arr 22 1 (List.map (lD iD) v69.1))), (1032, some (.arr 22 1 (List.map (lD iD) (v135 ++ [v165.2.2.1])))), (1037, some (.arr 3 1 (List.map iD v189.2.1))), (1038, some (.arr 47 3 (List.map Row.D v189.2.2)))]⟩ (by simp [c295, c730, g735, c739, c744, g750, c755, c842, k855] <;> omega) (by simp [c295, c730, g735, c739, c744, g750, c755, c842, k855] <;> omega) ?_
    refine Walk.seq (Walk.seq (Walk.region' rfl fun K hK => ?_))
    simp only [go_sem, seval, c295, c730, g735, c739, c744, g750, c755, c842, k855]
    refine hK _ ?_
    clear hK K
    refine Walk.condO rfl hx (fun c858 hx => ?_) (fun c858 hx => ?_)
    · refine Walk.seq (Walk.region' rfl fun K hK => ?_)
      simp only [go_sem, seval, c295, c730, g735, c739, c744, g750, c755, c842, k855, c858]
      refine hK _ ?_
      clear hK K
      obtain ⟨z859, e860, hx⟩ := exit_elim hx
      rw [hr727 z859 e860] at hx
      obtain rfl := Option.some.inj hx
      exact Walk.ret ⟨by simp [c295, c730, g735, c739, c744, g750, c755, c842, k855, c858], by simp [c295, c730, g735, c739, c744, g750, c755, c842, k855, c858]⟩
    refine Walk.skip (Walk.region' rfl fun K hK => ?_)
    simp only [go_sem, seval, c295, c730, g735, c739, c744, g750, c755, c842, k855, c858]
    refine hK _ ?_
    clear hK K
    refine Walk.inBlock (Walk.region' rfl fun K hK => ?_)
    simp only [go_sem, seval, c295, c730, g735, c739, c744, g750, c755, c842, k855, c858]
    refine hK _ ?_
    clear hK K
    refine Walk.weaken ⟨[(3, .box 3 0), (4, .arr 1018 0 v69.1.length), (6, .box 6 0), (7, .arr 1032 0 ((v135 ++ [v165.2.2.1]).length)), (8, .d (.int .i64 v165.2.2.2.1)), (9, .d (.int .i64 (IntKind.i64.wrap (v137 + 1))))], [(3, some (.box [.d (.sl (List.map iD v68.2.2)), .d (.sl (List.map Row.D v68.2.1))])), (6, some (.box [.arr 1037 0 v189.2.1.length, .arr 1038 0 v189.2.2.length])), (1018, some (.arr 22 1 (List.map (lD iD) v69.1))), (1032, some (.arr 22 1 (List.map (lD iD) (v135 ++ [v165.2.2.1])))), (1037, some (.arr 3 1 (List.map iD v189.2.1))), (1038, some (.arr 47 3 (List.map Row.D v189.2.2)))]⟩ (by simp [c295, c730, g735, c739, c744, g750, c755, c842, k855, c858] <;> omega) (by simp [c295, c730, g735, c739, c744, g750, c755, c842, k855, c858] <;> omega) ?_
    refine Walk.freeze 1037 3 1 (List.map iD v189.2.1) [(3, .box 3 0), (4, .arr 1018 0 v69.1.length), (6, .box 6 0), (7, .arr 1032 0 ((v135 ++ [v165.2.2.1]).length)), (8, .d (.int .i64 v165.2.2.2.1)), (9, .d (.int .i64 (IntKind.i64.wrap (v137 + 1))))] [(3, some (.box [.d (.sl (List.map iD v68.2.2)), .d (.sl (List.map Row.D v68.2.1))])), (6, some (.box [.d (.sl (List.map iD v189.2.1)), .arr 1038 0 v189.2.2.length])), (1018, some (.arr 22 1 (List.map (lD iD) v69.1))), (1032, some (.arr 22 1 (List.map (lD iD) (v135 ++ [v165.2.2.1])))), (1038, some (.arr 47 3 (List.map Row.D v189.2.2)))] (by simp) (by simp) (by simp) ?_
    refine Walk.freeze 1038 47 3 (List.map Row.D v189.2.2) [(3, .box 3 0), (4, .arr 1018 0 v69.1.length), (6, .box 6 0), (7, .arr 1032 0 ((v135 ++ [v165.2.2.1]).length)), (8, .d (.int .i64 v165.2.2.2.1)), (9, .d (.int .i64 (IntKind.i64.wrap (v137 + 1))))] [(3, some (.box [.d (.sl (List.map iD v68.2.2)), .d (.sl (List.map Row.D v68.2.1))])), (6, some (.box [.d (.sl (List.map iD v189.2.1)), .d (.sl (List.map Row.D v189.2.2))])), (1018, some (.arr 22 1 (List.map (lD iD) v69.1))), (1032, some (.arr 22 1 (List.map (lD iD) (v135 ++ [v165.2.2.1]))))] (by simp) (by simp) (by simp) ?_
    exact Walk.weaken _ (by simp [c295, c730, g735, c739, c744, g750, c755, c842, k855, c858] <;> omega) (by simp [c295, c730, g735, c739, c744, g750, c755, c842, k855, c858] <;> omega) (ih726 _ (cont_elim hx))
  refine Walk.exit rfl ?_
  obtain ⟨z862, e863, hx⟩ := exit_elim hx
  rw [hr727 z862 e863] at hx
  refine Walk.weaken ⟨[(4, .arr 1018 0 v69.1.length), (7, .arr 1032 0 v135.length)], [(1018, some (.arr 22 1 (List.map (lD iD) v69.1))), (1032, some (.arr 22 1 (List.map (lD iD) v135)))]⟩ (by simp [c295, c730] <;> omega) (by simp [c295, c730] <;> omega) ?_
  refine Walk.rename 1032 1022 (by omega) (by omega) (by simp) (by simp) ?_
  simp only [renE, renL, AV.ren, AV.rens, AObj.ren, swp, Option.map_some, reduceIte, Nat.reduceEqDiff]
  exact Walk.weaken _ (by simp [c295, c730] <;> omega) (by simp [c295, c730] <;> omega) (fin571 v135 hx)
noncomputable def ref08_Subset_l0 (v1 : Int) (v2 : Int) (v6 : List Int) (v7 : Int) : Option ((List Int × Int) ⊕ (List Int)) :=
  bif decide (v7 < v1) then (chk (0 ≤ (IntKind.u64.wrap (v7))) (bif decide (((Go.bits .and .i64 ((v2 / 2 ^ (min (IntKind.u64.wrap (v7)).toNat 64))) 1)) = 1) then (chk ((v6.length + 1) * 8 ≤ 140737488355328) (contO (((v6 ++ [v7]), IntKind.i64.wrap (v7 + 1)) : List Int × Int))) else (contO ((v6, IntKind.i64.wrap (v7 + 1)) : List Int × Int)))) else (exitO (some (v6 : List Int)))
noncomputable def ref08_Subset (v1 : Int) (v2 : Int) : Option (List Int) :=
  iter (fun g : List Int × Int => ref08_Subset_l0 v1 v2 g.1 g.2) ([], 0)
theorem ref08_Subset_ok (v1 : Int) (v2 : Int) (r : List Int) (hx : ref08_Subset v1 v2 = some r) :
    ACalls Try.prog 30 [.d (.int .i64 v1), .d (.int .i64 v2)] [] (.arr 2000 0 r.length) [(2000, some (.arr 3 1 (List.map iD r)))] := by
  refine ACalls.of_sem (n := 23) 0 [4] (fn := Try.f30) Try.func30 rfl rfl (.one rfl) rfl (by simp) (by intro i; simp only [hget]; (repeat' split) <;> simp <;> omega) ?_
  unfold ref08_Subset at hx
  refine Walk.seq (Walk.region' rfl fun K hK => ?_)
  simp only [go_sem, seval]
  refine hK _ ?_
  clear hK K
  refine Walk.seq (Walk.region' rfl fun K hK => ?_)
  simp only [go_sem, seval]
  refine hK _ ?_
  clear hK K
  refine Walk.seq (Walk.seq (Walk.region' rfl fun K hK => ?_))
  simp only [go_sem, seval]
  refine hK _ ?_
  clear hK K
  refine Walk.block (Walk.loop ?_)
  refine Walk.weaken ⟨[(0, .d (.int .i64 v1)), (1, .d (.int .i64 v2)), (5, .nils), (6, .d (.int .i64 0))], []⟩ (by simp <;> omega) (by simp <;> omega) ?_
  refine Walk.up 1002 3 1 [(0, .d (.int .i64 v1)), (1, .d (.int .i64 v2)), (5, .arr 1002 0 0), (6, .d (.int .i64 0))] [] (by simp) (by simp) (by omega) (by simp) (by simp) (by simp) ?_
  refine Walk.weaken ⟨[(0, .d (.int .i64 v1)), (1, .d (.int .i64 v2)), (5, .arr 1002 0 0), (6, .d (.int .i64 0))], [(1002, some (.arr 3 1 (List.map iD [])))]⟩ (by simp <;> omega) (by simp <;> omega) ?_
  refine Walk.iter (σ := List Int × Int) (fun g => ⟨[(0, .d (.int .i64 v1)), (1, .d (.int .i64 v2)), (5, .arr 1002 0 g.1.length), (6, .d (.int .i64 g.2))], [(1002, some (.arr 3 1 (List.map iD g.1)))]⟩) (fun g : List Int × Int => ref08_Subset_l0 v1 v2 g.1 g.2) _ (fun g y43 hx ih33 hr34 => ?_) ([], 0) hx
  obtain ⟨v6, v7⟩ := g
  unfold ref08_Subset_l0 at hx
  try dsimp only at hx ⊢
  refine Walk.seq (Walk.seq (Walk.region' rfl fun K hK => ?_))
  simp only [go_sem, seval]
  refine hK _ ?_
  clear hK K
  refine Walk.condO rfl hx (fun c37 hx => ?_) (fun c37 hx => ?_)
  · refine Walk.skip (Walk.seq (Walk.block (Walk.seq (Walk.region' rfl fun K hK => ?_))))
    obtain ⟨k38, hx⟩ := chk_elim hx
    simp only [go_sem, seval, c37, k38]
    repeat refine And.intro (by first | omega | (simp; done) | (simp; omega)) ?_
    refine hK _ ?_
    clear hK K
    refine Walk.condO rfl hx (fun c39 hx => ?_) (fun c39 hx => ?_)
    · refine Walk.region' rfl fun K hK => ?_
      obtain ⟨k40, hx⟩ := chk_elim hx
      simp only [go_sem, seval, c37, k38, c39, k40]
      repeat refine And.intro (by first | omega | (simp; done) | (simp; omega)) ?_
      refine hK _ ?_
      clear hK K
      refine Walk.weaken ⟨[(0, .d (.int .i64 v1)), (1, .d (.int .i64 v2)), (5, .arr 1002 0 ((v6 ++ [v7]).length)), (6, .d (.int .i64 v7))], [(1002, some (.arr 3 1 (List.map iD (v6 ++ [v7]))))]⟩ (by simp [c37, k38, c39, k40] <;> omega) (by simp [c37, k38, c39, k40] <;> omega) ?_
      refine Walk.inBlock (Walk.region' rfl fun K hK => ?_)
      simp only [go_sem, seval, c37, k38, c39, k40]
      refine hK _ ?_
      clear hK K
      exact Walk.weaken _ (by simp [c37, k38, c39, k40] <;> omega) (by simp [c37, k38, c39, k40] <;> omega) (ih33 _ (cont_elim hx))
    refine Walk.skip (Walk.inBlock (Walk.region' rfl fun K hK => ?_))
    simp only [go_sem, seval, c37, k38, c39]
    refine hK _ ?_
    clear hK K
    exact Walk.weaken _ (by simp [c37, k38, c39] <;> omega) (by simp [c37, k38, c39] <;> omega) (ih33 _ (cont_elim hx))
  refine Walk.exit rfl ?_
  obtain ⟨z41, e42, hx⟩ := exit_elim hx
  rw [hr34 z41 e42] at hx
  refine Walk.seq (Walk.region' rfl fun K hK => ?_)
  simp only [go_sem, seval, c37]
  refine hK _ ?_
  clear hK K
  refine Walk.weaken ⟨[(4, .arr 1002 0 v6.length)], [(1002, some (.arr 3 1 (List.map iD v6)))]⟩ (by simp [c37] <;> omega) (by simp [c37] <;> omega) ?_
  refine Walk.rename 1002 2000 (by omega) (by omega) (by simp) (by simp) ?_
  simp only [renE, renL, AV.ren, AV.rens, AObj.ren, swp, Option.map_some, reduceIte, Nat.reduceEqDiff]
  obtain rfl := Option.some.inj hx
  exact Walk.ret ⟨by simp [c37], by simp [c37]⟩
noncomputable def ref08_Before_l0 (v1 : List Int) (v2 : List Int) (v13 : Int) : Option ((Int) ⊕ (Bool)) :=
  bif decide (v13 < (v1.length : Int)) then (bif decide (v13 < (v2.length : Int)) then ((rd v1 v13).bind fun v16 => (rd v2 v13).bind fun v17 => bif decide (¬ v16 = v17) then (exitO (some (decide (v16 < v17) : Bool))) else (contO (IntKind.i64.wrap (v13 + 1) : Int))) else (exitO (some (decide ((v1.length : Int) < (v2.length : Int)) : Bool)))) else (exitO (some (decide ((v1.length : Int) < (v2.length : Int)) : Bool)))
noncomputable def ref08_Before (v1 : List Int) (v2 : List Int) : Option (Bool) :=
  iter (fun g : Int => ref08_Before_l0 v1 v2 g) 0
theorem ref08_Before_ok (v1 : List Int) (v2 : List Int) (r : Bool) (hx : ref08_Before v1 v2 = some r) :
    ACalls Try.prog 32 [.d (.sl (List.map iD v1)), .d (.sl (List.map iD v2))] [] (.d (.bool r)) [] := by
  refine ACalls.of_sem (n := 41) 0 [4] (fn := Try.f32) Try.func32 rfl rfl (.one rfl) rfl (by simp) (by intro i; simp only [hget]; (repeat' split) <;> simp <;> omega) ?_
  unfold ref08_Before at hx
  refine Walk.seq (Walk.region' rfl fun K hK => ?_)
  simp only [go_sem, seval]
  refine hK _ ?_
  clear hK K
  refine Walk.seq (Walk.seq (Walk.region' rfl fun K hK => ?_))
  simp only [go_sem, seval]
  refine hK _ ?_
  clear hK K
  refine Walk.block (Walk.loop ?_)
  refine Walk.weaken ⟨[(0, .d (.sl (List.map iD v1))), (1, .d (.sl (List.map iD v2))), (5, .d (.int .i64 0))], []⟩ (by simp <;> omega) (by simp <;> omega) ?_
  refine Walk.iter (σ := Int) (fun g => ⟨[(0, .d (.sl (List.map iD v1))), (1, .d (.sl (List.map iD v2))), (5, .d (.int .i64 g))], []⟩) (fun g : Int => ref08_Before_l0 v1 v2 g) _ (fun v13 y99 hx ih77 hr78 => ?_) 0 hx
  unfold ref08_Before_l0 at hx
  try dsimp only at hx ⊢
  refine Walk.seq (Walk.seq (Walk.region' rfl fun K hK => ?_))
  simp only [go_sem, seval]
  refine VGdO hx (fun g81 hx => ?_) (fun g81 hx => ?_)
  · simp only [go_sem, seval, g81]
    refine hK _ ?_
    clear hK K
    refine Walk.condO rfl hx (fun c83 hx => ?_) (fun c83 hx => ?_)
    · refine Walk.skip (Walk.seq (Walk.block (Walk.seq (Walk.drawn' rfl mixed fun K hK => ?_))))
      obtain ⟨v16, r84, a85, b86, c87, hx⟩ := rd_elim hx
      obtain ⟨v17, r88, a89, b90, c91, hx⟩ := rd_elim hx
      simp only [go_sem, seval, g81, c83, a85, b86, c87, a89, b90, c91]
      repeat refine And.intro (by first | omega | (simp; done) | (simp; omega)) ?_
      refine hK _ _ (by kernel_rfl) (by simp [g81, c83, a85, b86, c87, a89, b90, c91]) ?_
      clear hK K
      refine Walk.condO rfl hx (fun c92 hx => ?_) (fun c92 hx => ?_)
      · refine Walk.seq (Walk.drawn' rfl mixed fun K hK => ?_)
        simp only [go_sem, seval, g81, c83, a85, b86, c87, a89, b90, c91, c92]
        repeat refine And.intro (by first | omega | (simp; done) | (simp; omega)) ?_
        refine hK _ _ (by kernel_rfl) (by simp [g81, c83, a85, b86, c87, a89, b90, c91, c92]) ?_
        clear hK K
        obtain ⟨z93, e94, hx⟩ := exit_elim hx
        rw [hr78 z93 e94] at hx
        obtain rfl := Option.some.inj hx
        exact Walk.ret ⟨by simp [g81, c83, a85, b86, c87, a89, b90, c91, c92], by simp [g81, c83, a85, b86, c87, a89, b90, c91, c92]⟩
      refine Walk.skip (Walk.inBlock (Walk.region' rfl fun K hK => ?_))
      simp only [go_sem, seval, g81, c83, a85, b86, c87, a89, b90, c91, c92]
      refine hK _ ?_
      clear hK K
      exact Walk.weaken _ (by simp [g81, c83, a85, b86, c87, a89, b90, c91, c92] <;> omega) (by simp [g81, c83, a85, b86, c87, a89, b90, c91, c92] <;> omega) (ih77 _ (cont_elim hx))
    refine Walk.exit rfl ?_
    obtain ⟨z95, e96, hx⟩ := exit_elim hx
    rw [hr78 z95 e96] at hx
    refine Walk.seq (Walk.region' rfl fun K hK => ?_)
    simp only [go_sem, seval, g81, c83]
    refine hK _ ?_
    clear hK K
    obtain rfl := Option.some.inj hx
    exact Walk.ret ⟨by simp [g81, c83], by simp [g81, c83]⟩
  simp only [go_sem, seval, g81]
  refine hK _ ?_
  clear hK K
  refine Walk.condF rfl (Walk.exit rfl ?_)
  obtain ⟨z97, e98, hx⟩ := exit_elim hx
  rw [hr78 z97 e98] at hx
  refine Walk.seq (Walk.region' rfl fun K hK => ?_)
  simp only [go_sem, seval, g81]
  refine hK _ ?_
  clear hK K
  obtain rfl := Option.some.inj hx
  exact Walk.ret ⟨by simp [g81], by simp [g81]⟩
noncomputable def law10_AssemblyLeast_l1 (v26 : Int × List Row × List Int) (v29 : Bool) (v27 : Int × Bool × List Int × Int × List Node) (v35 : Int) : Option ((Int) ⊕ (Bool)) :=
  chk (0 ≤ (IntKind.u64.wrap ((v26.2.2.length : Int)))) (bif decide (v35 < (IntKind.i64.wrap (1 * 2 ^ (min (IntKind.u64.wrap ((v26.2.2.length : Int))).toNat 64)))) then ((ref08_Subset (v26.2.2.length : Int) v35).bind fun v41 => (blueprint_Meets v26.2.2 v26.2.1 v41).bind fun v43 => bif !v43 then (contO (IntKind.i64.wrap (v35 + 1) : Int)) else ((blueprint_Cost v26.2.2 v26.2.1 v41).bind fun v44 => bif !v29 then (exitO (some (false : Bool))) else (bif decide (v44.1 < v27.2.2.2.1) then (exitO (some (false : Bool))) else (bif decide (v44.1 = v27.2.2.2.1) then ((ref08_Before v41 v27.2.2.1).bind fun v45 => bif v45 then (exitO (some (false : Bool))) else (contO (IntKind.i64.wrap (v35 + 1) : Int))) else (contO (IntKind.i64.wrap (v35 + 1) : Int)))))) else (exitO ((law10_awake).bind fun v46 => some (v46 : Bool))))
noncomputable def law10_AssemblyLeast_j0 (v26 : Int × List Row × List Int) (v27 : Int × Bool × List Int × Int × List Node) (v29 : Bool) : Option (Bool) :=
  iter (fun g : Int => law10_AssemblyLeast_l1 v26 v29 v27 g) 0
noncomputable def law10_AssemblyLeast (v1 : List Int) : Option (Bool) :=
  (mk_New v1).bind fun v25 => (mk_Tape_Program v25 0 6 0).bind fun v26 => (assembly_Solve v26.2.2 v26.2.1).bind fun v27 => bif decide (¬ v27.1 = 0) then (some (false : Bool)) else (bif v27.2.1 then ((blueprint_Meets v26.2.2 v26.2.1 v27.2.2.1).bind fun v47 => bif !v47 then (some (false : Bool)) else (law10_AssemblyLeast_j0 v26 v27 true)) else (law10_AssemblyLeast_j0 v26 v27 false))
theorem law10_AssemblyLeast_ok (v1 : List Int) (r : Bool) (hx : law10_AssemblyLeast v1 = some r) :
    ACalls Try.prog 9 [.d (.sl (List.map iD v1))] [] (.d (.bool r)) [] := by
  refine ACalls.of_sem (n := 77) 0 [2] (fn := Try.f9) Try.func9 rfl rfl (.one rfl) rfl (by simp) (by intro i; simp only [hget]; (repeat' split) <;> simp <;> omega) ?_
  unfold law10_AssemblyLeast at hx
  refine Walk.seq (Walk.region' rfl fun K hK => ?_)
  simp only [go_sem, seval]
  refine hK _ ?_
  clear hK K
  refine Walk.seq (Walk.region' rfl fun K hK => ?_)
  obtain ⟨v25, h70, hx⟩ := bind_elim hx
  have w71 := ((mk_New_ok v1 _ h70).swap 2000 1008)
  simp only [renE, renL, AV.ren, AV.rens, AObj.ren, swp, Option.map_some, reduceIte, Nat.reduceEqDiff] at w71
  simp only [go_sem, seval]
  refine VCl.sub [] [] rfl (by simp only [go_sem, seval, AV.viewXs, AV.viewX, avD]; try simp) (w71) (by simp) (by simp) (by simp) (by simp) (by simp) (by simp) (by simp) (by simp) (by simp) (by simp) ?_
  obtain ⟨v26, h72, hx⟩ := bind_elim hx
  have w73 := ((((mk_Tape_Program_ok v25 0 6 0 _ h72).swap 0 1008).swap 2001 1009).swap 2002 1010)
  simp only [renE, renL, AV.ren, AV.rens, AObj.ren, swp, Option.map_some, reduceIte, Nat.reduceEqDiff] at w73
  simp only [go_sem, seval]
  refine VCl.sub [(1008, some (.box [.d (.sl (List.map iD v25)), .d (.int .i64 0)]))] [] rfl (by simp only [go_sem, seval, AV.viewXs, AV.viewX, avD]; try simp) (w73) (by simp) (by simp) (by simp) (by simp) (by simp) (by simp) (by simp) (by simp) (by simp) (by simp) ?_
  simp only [go_sem, seval]
  refine hK _ ?_
  clear hK K
  refine Walk.weaken ⟨[(3, .box 3 0)], [(3, some (.box [.arr 1009 0 v26.2.2.length, .arr 1010 0 v26.2.1.length])), (1009, some (.arr 3 1 (List.map iD v26.2.2))), (1010, some (.arr 47 3 (List.map Row.D v26.2.1)))]⟩ (by simp <;> omega) (by simp <;> omega) ?_
  refine Walk.seq (Walk.region' rfl fun K hK => ?_)
  simp only [go_sem, seval]
  refine hK _ ?_
  clear hK K
  refine Walk.seq ?_
  refine Walk.weaken ⟨[(3, .box 3 0), (4, .d (.int .i64 (v26.2.2.length : Int)))], [(3, some (.box [.arr 1009 0 v26.2.2.length, .arr 1010 0 v26.2.1.length])), (1009, some (.arr 3 1 (List.map iD v26.2.2))), (1010, some (.arr 47 3 (List.map Row.D v26.2.1)))]⟩ (by simp <;> omega) (by simp <;> omega) ?_
  refine Walk.freeze 1009 3 1 (List.map iD v26.2.2) [(3, .box 3 0), (4, .d (.int .i64 (v26.2.2.length : Int)))] [(3, some (.box [.d (.sl (List.map iD v26.2.2)), .arr 1010 0 v26.2.1.length])), (1010, some (.arr 47 3 (List.map Row.D v26.2.1)))] (by simp) (by simp) (by simp) ?_
  refine Walk.weaken ⟨[(3, .box 3 0), (4, .d (.int .i64 (v26.2.2.length : Int)))], [(3, some (.box [.d (.sl (List.map iD v26.2.2)), .arr 1010 0 v26.2.1.length])), (1010, some (.arr 47 3 (List.map Row.D v26.2.1)))]⟩ (by simp <;> omega) (by simp <;> omega) ?_
  refine Walk.freeze 1010 47 3 (List.map Row.D v26.2.1) [(3, .box 3 0), (4, .d (.int .i64 (v26.2.2.length : Int)))] [(3, some (.box [.d (.sl (List.map iD v26.2.2)), .d (.sl (List.map Row.D v26.2.1))]))] (by simp) (by simp) (by simp) ?_
  refine Walk.region' rfl fun K hK => ?_
  obtain ⟨v27, h74, hx⟩ := bind_elim hx
  have w75 := ((assembly_Solve_ok v26.2.2 v26.2.1 _ h74).swap 2001 1011)
  simp only [renE, renL, AV.ren, AV.rens, AObj.ren, swp, Option.map_some, reduceIte, Nat.reduceEqDiff] at w75
  simp only [go_sem, seval]
  refine VCl.pure rfl (by simp only [go_sem, seval]; try simp) (w75) (by simp only [go_sem, seval]; try simp) (by simp only [go_sem, seval]; try simp) (by simp only [go_sem, seval]; try simp) (by simp only [go_sem, seval]; try simp) (by simp only [go_sem, seval]; try simp) (by simp only [go_sem, seval]; try simp) ?_
  simp only [go_sem, seval]
  refine hK _ ?_
  clear hK K
  refine Walk.weaken ⟨[(3, .box 3 0), (4, .d (.int .i64 (v26.2.2.length : Int))), (5, .box 5 0), (6, .d (.int .i64 v27.1))], [(3, some (.box [.d (.sl (List.map iD v26.2.2)), .d (.sl (List.map Row.D v26.2.1))])), (5, some (.box [.d (.bool v27.2.1), .d (.sl (List.map iD v27.2.2.1)), .d (.int .i64 v27.2.2.2.1), .arr 1011 0 v27.2.2.2.2.length])), (1011, some (.arr 86 7 (List.map Node.D v27.2.2.2.2)))]⟩ (by simp <;> omega) (by simp <;> omega) ?_
  refine Walk.seq (Walk.join (G := Bool) (fun g => ⟨[(3, .box 3 0), (4, .d (.int .i64 (v26.2.2.length : Int))), (5, .box 5 0)], [(3, some (.box [.d (.sl (List.map iD v26.2.2)), .d (.sl (List.map Row.D v26.2.1))])), (5, some (.box [.d (.bool g), .d (.sl (List.map iD v27.2.2.1)), .d (.int .i64 v27.2.2.2.1), .arr 1011 0 v27.2.2.2.2.length])), (1011, some (.arr 86 7 (List.map Node.D v27.2.2.2.2)))]⟩) (fun g => law10_AssemblyLeast_j0 v26 v27 g) hx (fun v29 hx => ?_) (fun fin80 => ?_))
  · unfold law10_AssemblyLeast_j0 at hx
    try dsimp only at hx ⊢
    refine Walk.seq (Walk.seq (Walk.region' rfl fun K hK => ?_))
    simp only [go_sem, seval]
    refine hK _ ?_
    clear hK K
    refine Walk.block (Walk.loop ?_)
    refine Walk.weaken ⟨[(3, .box 3 0), (4, .d (.int .i64 (v26.2.2.length : Int))), (5, .box 5 0), (7, .d (.int .i64 0))], [(3, some (.box [.d (.sl (List.map iD v26.2.2)), .d (.sl (List.map Row.D v26.2.1))])), (5, some (.box [.d (.bool v29), .d (.sl (List.map iD v27.2.2.1)), .d (.int .i64 v27.2.2.2.1), .arr 1011 0 v27.2.2.2.2.length])), (1011, some (.arr 86 7 (List.map Node.D v27.2.2.2.2)))]⟩ (by simp <;> omega) (by simp <;> omega) ?_
    refine Walk.iter (σ := Int) (fun g => ⟨[(3, .box 3 0), (4, .d (.int .i64 (v26.2.2.length : Int))), (5, .box 5 0), (7, .d (.int .i64 g))], [(3, some (.box [.d (.sl (List.map iD v26.2.2)), .d (.sl (List.map Row.D v26.2.1))])), (5, some (.box [.d (.bool v29), .d (.sl (List.map iD v27.2.2.1)), .d (.int .i64 v27.2.2.2.1), .arr 1011 0 v27.2.2.2.2.length])), (1011, some (.arr 86 7 (List.map Node.D v27.2.2.2.2)))]⟩) (fun g : Int => law10_AssemblyLeast_l1 v26 v29 v27 g) _ (fun v35 y146 hx ih117 hr118 => ?_) 0 hx
    unfold law10_AssemblyLeast_l1 at hx
    try dsimp only at hx ⊢
    refine Walk.seq (Walk.seq (Walk.region' rfl fun K hK => ?_))
    obtain ⟨k121, hx⟩ := chk_elim hx
    simp only [go_sem, seval, k121]
    repeat refine And.intro (by first | omega | (simp; done) | (simp; omega)) ?_
    refine hK _ ?_
    clear hK K
    refine Walk.condO rfl hx (fun c123 hx => ?_) (fun c123 hx => ?_)
    · refine Walk.skip (Walk.seq (Walk.block (Walk.seq (Walk.region' rfl fun K hK => ?_))))
      obtain ⟨v41, h124, hx⟩ := bind_elim hx
      have w125 := ((ref08_Subset_ok (v26.2.2.length : Int) v35 _ h124).swap 2000 1014)
      simp only [renE, renL, AV.ren, AV.rens, AObj.ren, swp, Option.map_some, reduceIte, Nat.reduceEqDiff] at w125
      simp only [go_sem, seval, k121, c123]
      refine VCl.pure rfl (by simp only [go_sem, seval, k121, c123]; try simp) (w125) (by simp only [go_sem, seval, k121, c123]; try simp) (by simp only [go_sem, seval, k121, c123]; try simp) (by simp only [go_sem, seval, k121, c123]; try simp) (by simp only [go_sem, seval, k121, c123]; try simp) (by simp only [go_sem, seval, k121, c123]; try simp) (by simp only [go_sem, seval, k121, c123]; try simp) ?_
      simp only [go_sem, seval, k121, c123]
      refine hK _ ?_
      clear hK K
      refine Walk.weaken ⟨[(3, .box 3 0), (4, .d (.int .i64 (v26.2.2.length : Int))), (5, .box 5 0), (7, .d (.int .i64 v35)), (8, .arr 1014 0 v41.length)], [(3, some (.box [.d (.sl (List.map iD v26.2.2)), .d (.sl (List.map Row.D v26.2.1))])), (5, some (.box [.d (.bool v29), .d (.sl (List.map iD v27.2.2.1)), .d (.int .i64 v27.2.2.2.1), .arr 1011 0 v27.2.2.2.2.length])), (1011, some (.arr 86 7 (List.map Node.D v27.2.2.2.2))), (1014, some (.arr 3 1 (List.map iD v41)))]⟩ (by simp [k121, c123] <;> omega) (by simp [k121, c123] <;> omega) ?_
      refine Walk.seq (Walk.seq (Walk.region' rfl fun K hK => ?_))
      obtain ⟨v43, h128, hx⟩ := bind_elim hx
      simp only [go_sem, seval, k121, c123]
      refine VCl.lent rfl (by simp only [go_sem, seval, k121, c123]; try simp) (blueprint_Meets_ok v26.2.2 v26.2.1 v41 _ h128) (by simp [k121, c123]) (by simp [k121, c123]) (by simp [k121, c123]) (by simp [k121, c123]) (by simp [k121, c123]) (by simp [k121, c123]) (by simp [k121, c123]) ?_
      simp only [go_sem, seval, k121, c123]
      refine hK _ ?_
      clear hK K
      refine Walk.condO rfl hx (fun c130 hx => ?_) (fun c130 hx => ?_)
      · refine Walk.exit rfl (Walk.region' rfl fun K hK => ?_)
        simp only [go_sem, seval, k121, c123, c130]
        refine hK _ ?_
        clear hK K
        exact Walk.weaken _ (by simp [k121, c123, c130] <;> omega) (by simp [k121, c123, c130] <;> omega) (ih117 _ (cont_elim hx))
      refine Walk.skip (Walk.seq (Walk.region' rfl fun K hK => ?_))
      obtain ⟨v44, h131, hx⟩ := bind_elim hx
      simp only [go_sem, seval, k121, c123, c130]
      refine VCl.lent rfl (by simp only [go_sem, seval, k121, c123, c130]; try simp) (blueprint_Cost_ok v26.2.2 v26.2.1 v41 _ h131) (by simp [k121, c123, c130]) (by simp [k121, c123, c130]) (by simp [k121, c123, c130]) (by simp [k121, c123, c130]) (by simp [k121, c123, c130]) (by simp [k121, c123, c130]) (by simp [k121, c123, c130]) ?_
      simp only [go_sem, seval, k121, c123, c130]
      refine hK _ ?_
      clear hK K
      refine Walk.seq (Walk.region' rfl fun K hK => ?_)
      simp only [go_sem, seval, k121, c123, c130]
      refine VGdO hx (fun g132 hx => ?_) (fun g132 hx => ?_)
      · simp only [go_sem, seval, k121, c123, c130, g132]
        refine hK _ ?_
        clear hK K
        refine Walk.condT rfl (Walk.seq (Walk.region' rfl fun K hK => ?_))
        simp only [go_sem, seval, k121, c123, c130, g132]
        refine hK _ ?_
        clear hK K
        obtain ⟨z133, e134, hx⟩ := exit_elim hx
        rw [hr118 z133 e134] at hx
        obtain rfl := Option.some.inj hx
        exact Walk.ret ⟨by simp [k121, c123, c130, g132], by simp [k121, c123, c130, g132]⟩
      simp only [go_sem, seval, k121, c123, c130, g132]
      refine VGdO hx (fun g135 hx => ?_) (fun g135 hx => ?_)
      · simp only [go_sem, seval, k121, c123, c130, g132, g135]
        refine hK _ ?_
        clear hK K
        refine Walk.condT rfl (Walk.seq (Walk.region' rfl fun K hK => ?_))
        simp only [go_sem, seval, k121, c123, c130, g132, g135]
        refine hK _ ?_
        clear hK K
        obtain ⟨z136, e137, hx⟩ := exit_elim hx
        rw [hr118 z136 e137] at hx
        obtain rfl := Option.some.inj hx
        exact Walk.ret ⟨by simp [k121, c123, c130, g132, g135], by simp [k121, c123, c130, g132, g135]⟩
      simp only [go_sem, seval, k121, c123, c130, g132, g135]
      refine VGdO hx (fun g138 hx => ?_) (fun g138 hx => ?_)
      · obtain ⟨v45, h139, hx⟩ := bind_elim hx
        simp only [go_sem, seval, k121, c123, c130, g132, g135, g138]
        refine VCl.lent rfl (by simp only [go_sem, seval, k121, c123, c130, g132, g135, g138]; try simp) (ref08_Before_ok v41 v27.2.2.1 _ h139) (by simp [k121, c123, c130, g132, g135, g138]) (by simp [k121, c123, c130, g132, g135, g138]) (by simp [k121, c123, c130, g132, g135, g138]) (by simp [k121, c123, c130, g132, g135, g138]) (by simp [k121, c123, c130, g132, g135, g138]) (by simp [k121, c123, c130, g132, g135, g138]) (by simp [k121, c123, c130, g132, g135, g138]) ?_
        simp only [go_sem, seval, k121, c123, c130, g132, g135, g138]
        refine hK _ ?_
        clear hK K
        refine Walk.condO rfl hx (fun c140 hx => ?_) (fun c140 hx => ?_)
        · refine Walk.seq (Walk.region' rfl fun K hK => ?_)
          simp only [go_sem, seval, k121, c123, c130, g132, g135, g138, c140]
          refine hK _ ?_
          clear hK K
          obtain ⟨z141, e142, hx⟩ := exit_elim hx
          rw [hr118 z141 e142] at hx
          obtain rfl := Option.some.inj hx
          exact Walk.ret ⟨by simp [k121, c123, c130, g132, g135, g138, c140], by simp [k121, c123, c130, g132, g135, g138, c140]⟩
        refine Walk.skip (Walk.inBlock (Walk.region' rfl fun K hK => ?_))
        simp only [go_sem, seval, k121, c123, c130, g132, g135, g138, c140]
        refine hK _ ?_
        clear hK K
        exact Walk.weaken _ (by simp [k121, c123, c130, g132, g135, g138, c140] <;> omega) (by simp [k121, c123, c130, g132, g135, g138, c140] <;> omega) (ih117 _ (cont_elim hx))
      simp only [go_sem, seval, k121, c123, c130, g132, g135, g138]
      refine hK _ ?_
      clear hK K
      refine Walk.condF rfl (Walk.skip (Walk.inBlock (Walk.region' rfl fun K hK => ?_)))
      simp only [go_sem, seval, k121, c123, c130, g132, g135, g138]
      refine hK _ ?_
      clear hK K
      exact Walk.weaken _ (by simp [k121, c123, c130, g132, g135, g138] <;> omega) (by simp [k121, c123, c130, g132, g135, g138] <;> omega) (ih117 _ (cont_elim hx))
    refine Walk.exit rfl ?_
    obtain ⟨z143, e144, hx⟩ := exit_elim hx
    rw [hr118 z143 e144] at hx
    refine Walk.seq (Walk.region' rfl fun K hK => ?_)
    obtain ⟨v46, h145, hx⟩ := bind_elim hx
    simp only [go_sem, seval, k121, c123]
    refine VCl.pure rfl (by simp only [go_sem, seval, k121, c123]; try simp) (law10_awake_ok _ h145) (by simp only [go_sem, seval, k121, c123]; try simp) (by simp only [go_sem, seval, k121, c123]; try simp) (by simp only [go_sem, seval, k121, c123]; try simp) (by simp only [go_sem, seval, k121, c123]; try simp) (by simp only [go_sem, seval, k121, c123]; try simp) (by simp only [go_sem, seval, k121, c123]; try simp) ?_
    simp only [go_sem, seval, k121, c123]
    refine hK _ ?_
    clear hK K
    obtain rfl := Option.some.inj hx
    exact Walk.ret ⟨by simp [k121, c123], by simp [k121, c123]⟩
  refine Walk.seq (Walk.region' rfl fun K hK => ?_)
  simp only [go_sem, seval]
  refine VGdO hx (fun g147 hx => ?_) (fun g147 hx => ?_)
  · simp only [go_sem, seval, g147]
    refine hK _ ?_
    clear hK K
    refine Walk.condT rfl (Walk.seq (Walk.region' rfl fun K hK => ?_))
    simp only [go_sem, seval, g147]
    refine hK _ ?_
    clear hK K
    obtain rfl := Option.some.inj hx
    exact Walk.ret ⟨by simp [g147], by simp [g147]⟩
  simp only [go_sem, seval, g147]
  refine VGdO hx (fun g148 hx => ?_) (fun g148 hx => ?_)
  · obtain ⟨v47, h149, hx⟩ := bind_elim hx
    simp only [go_sem, seval, g147, g148]
    refine VCl.pure rfl (by simp only [go_sem, seval, g147, g148]; try simp) (blueprint_Meets_ok v26.2.2 v26.2.1 v27.2.2.1 _ h149) (by simp only [go_sem, seval, g147, g148]; try simp) (by simp only [go_sem, seval, g147, g148]; try simp) (by simp only [go_sem, seval, g147, g148]; try simp) (by simp only [go_sem, seval, g147, g148]; try simp) (by simp only [go_sem, seval, g147, g148]; try simp) (by simp only [go_sem, seval, g147, g148]; try simp) ?_
    simp only [go_sem, seval, g147, g148]
    refine hK _ ?_
    clear hK K
    refine Walk.condO rfl hx (fun c150 hx => ?_) (fun c150 hx => ?_)
    · refine Walk.seq (Walk.region' rfl fun K hK => ?_)
      simp only [go_sem, seval, g147, g148, c150]
      refine hK _ ?_
      clear hK K
      obtain rfl := Option.some.inj hx
      exact Walk.ret ⟨by simp [g147, g148, c150], by simp [g147, g148, c150]⟩
    refine Walk.skip ?_
    exact Walk.weaken _ (by simp [g147, g148, c150] <;> omega) (by simp [g147, g148, c150] <;> omega) (fin80 true hx)
  simp only [go_sem, seval, g147, g148]
  refine hK _ ?_
  clear hK K
  refine Walk.condF rfl (Walk.skip ?_)
  exact Walk.weaken _ (by simp [g147, g148] <;> omega) (by simp [g147, g148] <;> omega) (fin80 false hx)
end Go.AX

