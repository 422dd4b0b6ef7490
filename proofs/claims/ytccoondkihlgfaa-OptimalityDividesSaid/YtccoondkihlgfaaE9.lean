import Derived.Test.YtccoondkihlgfaaE8
set_option linter.unusedVariables false
set_option linter.unusedSimpArgs false
set_option maxRecDepth 20000
set_option maxHeartbeats 4000000
namespace Go.AX
open Go.Proofs
attribute [local simp] spl_len take_snoc take_cons_drop cons_rep cons_tail iA bA take_set_len idsL_rep idsL_iA idsL_bA idsL_sA idsL_set_mem idsL_sub sA_def List.map_replicate frVs_setS frVs_self frV_arr take_map_len subE subH eget hget upE upV upH upO_refl upO_box upVs freshE freshH freshO AV.ids AV.idsL ids_box ids_arr frE frV_refl frV_arr frH frO_refl frO_box frVs newOk evalA AV.viewXs AV.viewX AV.viewXP AV.viewXPs AV.viewPs AV.viewP AV.flat AV.flatL D.flat arrsOnly flatObjs newNames subOf closedIn allSome dstOk newOrOld avD avDp zv_i64 zv_u8 zv_bool zv_nils zv_nilp zv_str retAV aLoad cut TI.isAgg nlE nlH nlO_refl nlO_box nlVs nlV_refl nlV_nil iD uD bD tD lD List.map_set ti2 ti3 ti4 ti5 ti6 ti7 ti8 ti9 ti10 ti11 ti12 ti13 ti14 ti15 ti16 ti17 ti18 ti19 ti21 ti22 ti23 ti25 ti26 ti27 ti32 ti33 ti34 ti41 ti42 ti50 ti51 ti56 ti60 ti61 ti63 ti64 ti74 ti76 ti89 ti92 ti96 ti97 ti98 ti99 ti100 ti101 ti102 ti104 ti105 ti106 ti107 ti108 Row.D Node.D
attribute [local go_sem] V1_none V1_some V_nil V_move V_assign V_pick V_bin V_un V_extract V_makeFunc V_convert V_nilCheck V_fieldAddr V_field V_load V_store V_indexAddr V_index V_slice V_slice0 V_alloc V_box V_build V_buildSlice V_makeSlice V_len V_min V_max V_append V_copy V_call V_guard VGs_some VG_tt VG_ff VG_tf VG_ft VG_u gslot ok fail po so aNew dstOk freshU addLog_none' addLog_some' St.step putL evalA eget hget argE freshE freshO freshH AV.ids AV.idsL AV.ok1 AV.cells ids_box ids_arr liveBox liveArr isArr isObj isBoxB aPick isNilC aNilEq aBin aUn aExtract aMakeFunc aConvert aNilCheck aFieldAddr aField cut aLen aIndexAddr aMin aMax aIndex bnd isInt aSlice aSlice0 aLoad aAlloc aBox aStore splice aMake aMakeBox aCopy cellsOf cellsOfP updIds newIds zv_i64 zv_u8 zv_bool zv_nils zv_nilp cond_bool cond_int TI.isAgg TK.isSl TK.el okL avDps avDp avD List.map_cons List.map_nil List.append_nil List.nil_append List.cons_append List.length_cons List.length_nil List.take_succ_cons List.take_zero List.drop_succ_cons List.drop_zero List.take_nil List.drop_nil List.headD_cons List.getD_cons_zero List.getD_cons_succ List.mem_cons List.not_mem_nil List.getElem?_cons_zero List.getElem?_cons_succ List.toList_toArray Option.getD_some Option.getD_none Option.bind_some Option.bind_none Option.map_some Option.map_none Option.getD Option.toList Nat.zero_add Nat.add_zero Nat.zero_le Nat.le_refl if_true if_false ite_self true_and and_true false_and and_false true_or or_true false_or or_false not_true_eq_false not_false_eq_true ne_eq cond_true cond_false Bool.true_eq_false Bool.false_eq_true forall_const decide_true decide_false implies_true true_implies and_self or_self Nat.succ_ne_zero Int.toNat_natCast Int.natCast_nonneg List.length_map decide_eq_true_eq AV.views AV.view AV.viewPs AV.viewP arrsOnly newNames List.length_append List.append_assoc Bool.not_true Bool.not_false AV.ok2 aBuild fillR fillP aBuildSlice dense elP aAppend esOf esOfP List.forall_mem_cons forall_eq_or_imp forall_eq zD zDp map_take' map_drop' iD uD bD tD lD iD_len uD_len bD_len tD_len lD_len LB Int.cast_ofNat_Int Int.natCast_zero Int.natCast_one head_len all_len List.head?_cons List.head?_nil Bool.not_not eq_self List.take_length zv_str aConv byteOf isByte map_bcell bytes_all str_map cellsEq cellsP AV.kd Bool.and_true Bool.true_and Bool.and_false Bool.false_and spl_map spl_len mkbox_i mkbox_b flat_iD dataL_iA dataL_bA zv_u64 flat_iD' flat_len dataL_tA dataL_ttA spl_mt spl_mtt mkbox_s splice_one take_cons_drop cons_rep cons_tail hd_set hd_set0 List.length_replicate iA bA sA_def List.set_set List.length_set idsL_iA idsL_bA idsL_sA idsL_setE idsL_rep List.append_eq Nat.mul_one ti2 ti3 ti4 ti5 ti6 ti7 ti8 ti9 ti10 ti11 ti12 ti13 ti14 ti15 ti16 ti17 ti18 ti19 ti21 ti22 ti23 ti25 ti26 ti27 ti32 ti33 ti34 ti41 ti42 ti50 ti51 ti56 ti60 ti61 ti63 ti64 ti74 ti76 ti89 ti92 ti96 ti97 ti98 ti99 ti100 ti101 ti102 ti104 ti105 ti106 ti107 ti108 Row.D Node.D Row.D_len Node.D_len
noncomputable def law09_OptimalityBoundSound_l2 (v34 : Int × List Row × List Int) (v35 : Int × List Int) (v46 : Int × Bool) (v51 : Int) : Option ((Int) ⊕ (Bool)) :=
  chk (0 ≤ (IntKind.u64.wrap ((v34.2.2.length : Int)))) (bif decide (v51 < (IntKind.i64.wrap (1 * 2 ^ (min (IntKind.u64.wrap ((v34.2.2.length : Int))).toNat 64)))) then ((ref08_Subset (v34.2.2.length : Int) v51).bind fun v56 => (blueprint_Cost v34.2.2 v34.2.1 v56).bind fun v57 => (law09_complete v35.2 v56).bind fun v58 => bif v58 then ((blueprint_Meets v34.2.2 v34.2.1 v56).bind fun v59 => bif v59 then (bif decide (v57.1 < v46.1) then (exitO (some (false : Bool))) else (contO (IntKind.i64.wrap (v51 + 1) : Int))) else (contO (IntKind.i64.wrap (v51 + 1) : Int))) else (contO (IntKind.i64.wrap (v51 + 1) : Int))) else (exitO ((law09_awake).bind fun v60 => some (v60 : Bool))))
noncomputable def law09_OptimalityBoundSound_j1 (v34 : Int × List Row × List Int) (v35 : Int × List Int) (v36 : Int × Int) (v44 : Int) (v45 : Int) : Option (Bool) :=
  (optimality_Bound v34.2.2 v34.2.1 v35.2 3 0 0 0 v36.1 v44 v45).bind fun v46 => bif !v46.2 then (some (false : Bool)) else (iter (fun g : Int => law09_OptimalityBoundSound_l2 v34 v35 v46 g) 0)
noncomputable def law09_OptimalityBoundSound_j0 (v33 : List Int) (v36 : Int × Int) (v34 : Int × List Row × List Int) (v35 : Int × List Int) (v39 : Int) (v40 : Int) : Option (Bool) :=
  (mk_Tape_Next v33 v36.2 2).bind fun v61 => bif decide (v61.1 = 0) then (bif decide (v36.1 ≥ 0) then ((mk_Tape_Range v33 v61.2 (-5) 9).bind fun v62 => (mk_Tape_Range v33 v62.2 1 3).bind fun v63 => law09_OptimalityBoundSound_j1 v34 v35 v36 v62.1 v63.1) else (law09_OptimalityBoundSound_j1 v34 v35 v36 v39 v40)) else (law09_OptimalityBoundSound_j1 v34 v35 v36 v39 v40)
noncomputable def law09_OptimalityBoundSound (v1 : List Int) (v2 : Int) (v3 : Int) : Option (Bool) :=
  (mk_New v1).bind fun v33 => (mk_Tape_Program v33 0 5 0).bind fun v34 => (mk_Tape_State v33 v34.1 (v34.2.2.length : Int)).bind fun v35 => (mk_Tape_Range v33 v35.1 (-1) (IntKind.i64.wrap ((v34.2.1.length : Int) - 1))).bind fun v36 => (mk_Cut v2 20001).bind fun v37 => (mk_Cut v3 10000).bind fun v38 => bif decide (v36.1 = (-1)) then (law09_OptimalityBoundSound_j0 v33 v36 v34 v35 0 1) else (law09_OptimalityBoundSound_j0 v33 v36 v34 v35 (IntKind.i64.wrap (v37 - 10000)) (IntKind.i64.wrap (1 + v38)))
theorem law09_OptimalityBoundSound_ok (v1 : List Int) (v2 : Int) (v3 : Int) (r : Bool) (hx : law09_OptimalityBoundSound v1 v2 v3 = some r) :
    ACalls Try.prog 8 [.d (.sl (List.map iD v1)), .d (.int .i64 v2), .d (.int .i64 v3)] [] (.d (.bool r)) [] := by
  refine ACalls.of_sem (n := 99) 0 [6] (fn := Try.f8) Try.func8 rfl rfl (.one rfl) rfl (by simp) (by intro i; simp only [hget]; (repeat' split) <;> simp <;> omega) ?_
  unfold law09_OptimalityBoundSound at hx
  refine Walk.seq (Walk.region' rfl fun K hK => ?_)
  simp only [go_sem, seval]
  refine hK _ ?_
  clear hK K
  refine Walk.seq (Walk.region' rfl fun K hK => ?_)
  obtain ⟨v33, h68, hx⟩ := bind_elim hx
  have w69 := ((mk_New_ok v1 _ h68).swap 2000 1008)
  simp only [renE, renL, AV.ren, AV.rens, AObj.ren, swp, Option.map_some, reduceIte, Nat.reduceEqDiff] at w69
  simp only [go_sem, seval]
  refine VCl.sub [] [] rfl (by simp only [go_sem, seval, AV.viewXs, AV.viewX, avD]; try simp) (w69) (by simp) (by simp) (by simp) (by simp) (by simp) (by simp) (by simp) (by simp) (by simp) (by simp) ?_
  simp only [go_sem, seval]
  refine hK _ ?_
  clear hK K
  refine Walk.weaken ⟨[(1, .d (.int .i64 v2)), (2, .d (.int .i64 v3)), (7, .box 1008 0)], [(1008, some (.box [.d (.sl (List.map iD v33)), .d (.int .i64 0)]))]⟩ (by simp <;> omega) (by simp <;> omega) ?_
  refine Walk.seq (Walk.region' rfl fun K hK => ?_)
  obtain ⟨v34, h70, hx⟩ := bind_elim hx
  have w71 := ((((mk_Tape_Program_ok v33 0 5 0 _ h70).swap 0 1008).swap 2001 1009).swap 2002 1010)
  simp only [renE, renL, AV.ren, AV.rens, AObj.ren, swp, Option.map_some, reduceIte, Nat.reduceEqDiff] at w71
  simp only [go_sem, seval]
  refine VCl.sub [(1008, some (.box [.d (.sl (List.map iD v33)), .d (.int .i64 0)]))] [] rfl (by simp only [go_sem, seval, AV.viewXs, AV.viewX, avD]; try simp) (w71) (by simp) (by simp) (by simp) (by simp) (by simp) (by simp) (by simp) (by simp) (by simp) (by simp) ?_
  simp only [go_sem, seval]
  refine hK _ ?_
  clear hK K
  refine Walk.weaken ⟨[(1, .d (.int .i64 v2)), (2, .d (.int .i64 v3)), (7, .box 1008 0), (8, .box 8 0)], [(8, some (.box [.arr 1009 0 v34.2.2.length, .arr 1010 0 v34.2.1.length])), (1008, some (.box [.d (.sl (List.map iD v33)), .d (.int .i64 v34.1)])), (1009, some (.arr 3 1 (List.map iD v34.2.2))), (1010, some (.arr 64 3 (List.map Row.D v34.2.1)))]⟩ (by simp <;> omega) (by simp <;> omega) ?_
  refine Walk.seq (Walk.region' rfl fun K hK => ?_)
  simp only [go_sem, seval]
  refine hK _ ?_
  clear hK K
  refine Walk.seq (Walk.region' rfl fun K hK => ?_)
  obtain ⟨v35, h72, hx⟩ := bind_elim hx
  have w73 := (((mk_Tape_State_ok v33 v34.1 (v34.2.2.length : Int) _ h72).swap 0 1008).swap 2000 1011)
  simp only [renE, renL, AV.ren, AV.rens, AObj.ren, swp, Option.map_some, reduceIte, Nat.reduceEqDiff] at w73
  simp only [go_sem, seval]
  refine VCl.sub [(1008, some (.box [.d (.sl (List.map iD v33)), .d (.int .i64 v34.1)]))] [] rfl (by simp only [go_sem, seval, AV.viewXs, AV.viewX, avD]; try simp) (w73) (by simp) (by simp) (by simp) (by simp) (by simp) (by simp) (by simp) (by simp) (by simp) (by simp) ?_
  simp only [go_sem, seval]
  refine hK _ ?_
  clear hK K
  refine Walk.weaken ⟨[(1, .d (.int .i64 v2)), (2, .d (.int .i64 v3)), (7, .box 1008 0), (8, .box 8 0), (9, .d (.int .i64 (v34.2.2.length : Int))), (10, .arr 1011 0 v35.2.length)], [(8, some (.box [.arr 1009 0 v34.2.2.length, .arr 1010 0 v34.2.1.length])), (1008, some (.box [.d (.sl (List.map iD v33)), .d (.int .i64 v35.1)])), (1009, some (.arr 3 1 (List.map iD v34.2.2))), (1010, some (.arr 64 3 (List.map Row.D v34.2.1))), (1011, some (.arr 3 1 (List.map iD v35.2)))]⟩ (by simp <;> omega) (by simp <;> omega) ?_
  refine Walk.seq (Walk.region' rfl fun K hK => ?_)
  obtain ⟨v36, h74, hx⟩ := bind_elim hx
  have w75 := ((mk_Tape_Range_ok v33 v35.1 (-1) (IntKind.i64.wrap ((v34.2.1.length : Int) - 1)) _ h74).swap 0 1008)
  simp only [renE, renL, AV.ren, AV.rens, AObj.ren, swp, Option.map_some, reduceIte, Nat.reduceEqDiff] at w75
  simp only [go_sem, seval]
  refine VCl.sub [(1008, some (.box [.d (.sl (List.map iD v33)), .d (.int .i64 v35.1)]))] [] rfl (by simp only [go_sem, seval, AV.viewXs, AV.viewX, avD]; try simp) (w75) (by simp) (by simp) (by simp) (by simp) (by simp) (by simp) (by simp) (by simp) (by simp) (by simp) ?_
  obtain ⟨v37, h76, hx⟩ := bind_elim hx
  simp only [go_sem, seval]
  refine VCl.pure rfl (by simp only [go_sem, seval]; try simp) (mk_Cut_ok v2 20001 _ h76) (by simp only [go_sem, seval]; try simp) (by simp only [go_sem, seval]; try simp) (by simp only [go_sem, seval]; try simp) (by simp only [go_sem, seval]; try simp) (by simp only [go_sem, seval]; try simp) (by simp only [go_sem, seval]; try simp) ?_
  obtain ⟨v38, h77, hx⟩ := bind_elim hx
  simp only [go_sem, seval]
  refine VCl.pure rfl (by simp only [go_sem, seval]; try simp) (mk_Cut_ok v3 10000 _ h77) (by simp only [go_sem, seval]; try simp) (by simp only [go_sem, seval]; try simp) (by simp only [go_sem, seval]; try simp) (by simp only [go_sem, seval]; try simp) (by simp only [go_sem, seval]; try simp) (by simp only [go_sem, seval]; try simp) ?_
  simp only [go_sem, seval]
  refine hK _ ?_
  clear hK K
  refine Walk.weaken ⟨[(7, .box 1008 0), (8, .box 8 0), (9, .d (.int .i64 (v34.2.2.length : Int))), (10, .arr 1011 0 v35.2.length), (11, .box 11 0)], [(8, some (.box [.arr 1009 0 v34.2.2.length, .arr 1010 0 v34.2.1.length])), (11, some (.box [.d (.int .i64 3), .d (.int .i64 0), .d (.int .i64 0), .d (.int .i64 0), .d (.int .i64 v36.1), .d (.int .i64 (IntKind.i64.wrap (v37 - 10000))), .d (.int .i64 (IntKind.i64.wrap (1 + v38)))])), (1008, some (.box [.d (.sl (List.map iD v33)), .d (.int .i64 v36.2)])), (1009, some (.arr 3 1 (List.map iD v34.2.2))), (1010, some (.arr 64 3 (List.map Row.D v34.2.1))), (1011, some (.arr 3 1 (List.map iD v35.2)))]⟩ (by simp <;> omega) (by simp <;> omega) ?_
  refine Walk.seq (Walk.join (G := Int × Int) (fun g => ⟨[(7, .box 1008 0), (8, .box 8 0), (9, .d (.int .i64 (v34.2.2.length : Int))), (10, .arr 1011 0 v35.2.length), (11, .box 11 0)], [(8, some (.box [.arr 1009 0 v34.2.2.length, .arr 1010 0 v34.2.1.length])), (11, some (.box [.d (.int .i64 3), .d (.int .i64 0), .d (.int .i64 0), .d (.int .i64 0), .d (.int .i64 v36.1), .d (.int .i64 g.1), .d (.int .i64 g.2)])), (1008, some (.box [.d (.sl (List.map iD v33)), .d (.int .i64 v36.2)])), (1009, some (.arr 3 1 (List.map iD v34.2.2))), (1010, some (.arr 64 3 (List.map Row.D v34.2.1))), (1011, some (.arr 3 1 (List.map iD v35.2)))]⟩) (fun g => law09_OptimalityBoundSound_j0 v33 v36 v34 v35 g.1 g.2) hx (fun g hx => ?_) (fun fin79 => ?_))
  · obtain ⟨v39, v40⟩ := g
    unfold law09_OptimalityBoundSound_j0 at hx
    try dsimp only at hx ⊢
    refine Walk.seq (Walk.join (G := Int × Int) (fun g => ⟨[(8, .box 8 0), (9, .d (.int .i64 (v34.2.2.length : Int))), (10, .arr 1011 0 v35.2.length), (11, .box 11 0)], [(8, some (.box [.arr 1009 0 v34.2.2.length, .arr 1010 0 v34.2.1.length])), (11, some (.box [.d (.int .i64 3), .d (.int .i64 0), .d (.int .i64 0), .d (.int .i64 0), .d (.int .i64 v36.1), .d (.int .i64 g.1), .d (.int .i64 g.2)])), (1009, some (.arr 3 1 (List.map iD v34.2.2))), (1010, some (.arr 64 3 (List.map Row.D v34.2.1))), (1011, some (.arr 3 1 (List.map iD v35.2)))]⟩) (fun g => law09_OptimalityBoundSound_j1 v34 v35 v36 g.1 g.2) hx (fun g hx => ?_) (fun fin88 => ?_))
    · obtain ⟨v44, v45⟩ := g
      unfold law09_OptimalityBoundSound_j1 at hx
      try dsimp only at hx ⊢
      refine Walk.seq (Walk.region' rfl fun K hK => ?_)
      obtain ⟨v46, h89, hx⟩ := bind_elim hx
      simp only [go_sem, seval]
      refine VCl.lent rfl (by simp only [go_sem, seval]; try simp) (optimality_Bound_ok v34.2.2 v34.2.1 v35.2 3 0 0 0 v36.1 v44 v45 _ h89) (by simp) (by simp) (by simp) (by simp) (by simp) (by simp) (by simp) ?_
      simp only [go_sem, seval]
      refine hK _ ?_
      clear hK K
      refine Walk.seq (Walk.seq (Walk.region' rfl fun K hK => ?_))
      simp only [go_sem, seval]
      refine hK _ ?_
      clear hK K
      refine Walk.condO rfl hx (fun c92 hx => ?_) (fun c92 hx => ?_)
      · refine Walk.seq (Walk.region' rfl fun K hK => ?_)
        simp only [go_sem, seval, c92]
        refine hK _ ?_
        clear hK K
        obtain rfl := Option.some.inj hx
        exact Walk.ret ⟨by simp [c92], by simp [c92]⟩
      refine Walk.skip (Walk.seq (Walk.seq (Walk.region' rfl fun K hK => ?_)))
      simp only [go_sem, seval, c92]
      refine hK _ ?_
      clear hK K
      refine Walk.block (Walk.loop ?_)
      refine Walk.weaken ⟨[(8, .box 8 0), (9, .d (.int .i64 (v34.2.2.length : Int))), (10, .arr 1011 0 v35.2.length), (12, .d (.int .i64 v46.1)), (14, .d (.int .i64 0))], [(8, some (.box [.arr 1009 0 v34.2.2.length, .arr 1010 0 v34.2.1.length])), (1009, some (.arr 3 1 (List.map iD v34.2.2))), (1010, some (.arr 64 3 (List.map Row.D v34.2.1))), (1011, some (.arr 3 1 (List.map iD v35.2)))]⟩ (by simp [c92] <;> omega) (by simp [c92] <;> omega) ?_
      refine Walk.iter (σ := Int) (fun g => ⟨[(8, .box 8 0), (9, .d (.int .i64 (v34.2.2.length : Int))), (10, .arr 1011 0 v35.2.length), (12, .d (.int .i64 v46.1)), (14, .d (.int .i64 g))], [(8, some (.box [.arr 1009 0 v34.2.2.length, .arr 1010 0 v34.2.1.length])), (1009, some (.arr 3 1 (List.map iD v34.2.2))), (1010, some (.arr 64 3 (List.map Row.D v34.2.1))), (1011, some (.arr 3 1 (List.map iD v35.2)))]⟩) (fun g : Int => law09_OptimalityBoundSound_l2 v34 v35 v46 g) _ (fun v51 y139 hx ih119 hr120 => ?_) 0 hx
      unfold law09_OptimalityBoundSound_l2 at hx
      try dsimp only at hx ⊢
      refine Walk.seq (Walk.seq (Walk.region' rfl fun K hK => ?_))
      obtain ⟨k123, hx⟩ := chk_elim hx
      simp only [go_sem, seval, c92, k123]
      repeat refine And.intro (by first | omega | (simp; done) | (simp; omega)) ?_
      refine hK _ ?_
      clear hK K
      refine Walk.condO rfl hx (fun c125 hx => ?_) (fun c125 hx => ?_)
      · refine Walk.skip (Walk.seq (Walk.block (Walk.seq (Walk.region' rfl fun K hK => ?_))))
        obtain ⟨v56, h126, hx⟩ := bind_elim hx
        have w127 := ((ref08_Subset_ok (v34.2.2.length : Int) v51 _ h126).swap 2000 1014)
        simp only [renE, renL, AV.ren, AV.rens, AObj.ren, swp, Option.map_some, reduceIte, Nat.reduceEqDiff] at w127
        simp only [go_sem, seval, c92, k123, c125]
        refine VCl.pure rfl (by simp only [go_sem, seval, c92, k123, c125]; try simp) (w127) (by simp only [go_sem, seval, c92, k123, c125]; try simp) (by simp only [go_sem, seval, c92, k123, c125]; try simp) (by simp only [go_sem, seval, c92, k123, c125]; try simp) (by simp only [go_sem, seval, c92, k123, c125]; try simp) (by simp only [go_sem, seval, c92, k123, c125]; try simp) (by simp only [go_sem, seval, c92, k123, c125]; try simp) ?_
        simp only [go_sem, seval, c92, k123, c125]
        refine hK _ ?_
        clear hK K
        refine Walk.weaken ⟨[(8, .box 8 0), (9, .d (.int .i64 (v34.2.2.length : Int))), (10, .arr 1011 0 v35.2.length), (12, .d (.int .i64 v46.1)), (14, .d (.int .i64 v51)), (15, .arr 1014 0 v56.length)], [(8, some (.box [.arr 1009 0 v34.2.2.length, .arr 1010 0 v34.2.1.length])), (1009, some (.arr 3 1 (List.map iD v34.2.2))), (1010, some (.arr 64 3 (List.map Row.D v34.2.1))), (1011, some (.arr 3 1 (List.map iD v35.2))), (1014, some (.arr 3 1 (List.map iD v56)))]⟩ (by simp [c92, k123, c125] <;> omega) (by simp [c92, k123, c125] <;> omega) ?_
        refine Walk.seq (Walk.region' rfl fun K hK => ?_)
        obtain ⟨v57, h128, hx⟩ := bind_elim hx
        simp only [go_sem, seval, c92, k123, c125]
        refine VCl.lent rfl (by simp only [go_sem, seval, c92, k123, c125]; try simp) (blueprint_Cost_ok v34.2.2 v34.2.1 v56 _ h128) (by simp [c92, k123, c125]) (by simp [c92, k123, c125]) (by simp [c92, k123, c125]) (by simp [c92, k123, c125]) (by simp [c92, k123, c125]) (by simp [c92, k123, c125]) (by simp [c92, k123, c125]) ?_
        simp only [go_sem, seval, c92, k123, c125]
        refine hK _ ?_
        clear hK K
        refine Walk.seq (Walk.region' rfl fun K hK => ?_)
        obtain ⟨v58, h129, hx⟩ := bind_elim hx
        simp only [go_sem, seval, c92, k123, c125]
        refine VCl.lent rfl (by simp only [go_sem, seval, c92, k123, c125]; try simp) (law09_complete_ok v35.2 v56 _ h129) (by simp [c92, k123, c125]) (by simp [c92, k123, c125]) (by simp [c92, k123, c125]) (by simp [c92, k123, c125]) (by simp [c92, k123, c125]) (by simp [c92, k123, c125]) (by simp [c92, k123, c125]) ?_
        simp only [go_sem, seval, c92, k123, c125]
        refine VGdO hx (fun g130 hx => ?_) (fun g130 hx => ?_)
        · obtain ⟨v59, h131, hx⟩ := bind_elim hx
          simp only [go_sem, seval, c92, k123, c125, g130]
          refine VCl.lent rfl (by simp only [go_sem, seval, c92, k123, c125, g130]; try simp) (blueprint_Meets_ok v34.2.2 v34.2.1 v56 _ h131) (by simp [c92, k123, c125, g130]) (by simp [c92, k123, c125, g130]) (by simp [c92, k123, c125, g130]) (by simp [c92, k123, c125, g130]) (by simp [c92, k123, c125, g130]) (by simp [c92, k123, c125, g130]) (by simp [c92, k123, c125, g130]) ?_
          simp only [go_sem, seval, c92, k123, c125, g130]
          refine VGdO hx (fun g132 hx => ?_) (fun g132 hx => ?_)
          · simp only [go_sem, seval, c92, k123, c125, g130, g132]
            refine hK _ ?_
            clear hK K
            refine Walk.condO rfl hx (fun c133 hx => ?_) (fun c133 hx => ?_)
            · refine Walk.seq (Walk.region' rfl fun K hK => ?_)
              simp only [go_sem, seval, c92, k123, c125, g130, g132, c133]
              refine hK _ ?_
              clear hK K
              obtain ⟨z134, e135, hx⟩ := exit_elim hx
              rw [hr120 z134 e135] at hx
              obtain rfl := Option.some.inj hx
              exact Walk.ret ⟨by simp [c92, k123, c125, g130, g132, c133], by simp [c92, k123, c125, g130, g132, c133]⟩
            refine Walk.skip (Walk.inBlock (Walk.region' rfl fun K hK => ?_))
            simp only [go_sem, seval, c92, k123, c125, g130, g132, c133]
            refine hK _ ?_
            clear hK K
            exact Walk.weaken _ (by simp [c92, k123, c125, g130, g132, c133] <;> omega) (by simp [c92, k123, c125, g130, g132, c133] <;> omega) (ih119 _ (cont_elim hx))
          simp only [go_sem, seval, c92, k123, c125, g130, g132]
          refine hK _ ?_
          clear hK K
          refine Walk.condF rfl (Walk.skip (Walk.inBlock (Walk.region' rfl fun K hK => ?_)))
          simp only [go_sem, seval, c92, k123, c125, g130, g132]
          refine hK _ ?_
          clear hK K
          exact Walk.weaken _ (by simp [c92, k123, c125, g130, g132] <;> omega) (by simp [c92, k123, c125, g130, g132] <;> omega) (ih119 _ (cont_elim hx))
        simp only [go_sem, seval, c92, k123, c125, g130]
        refine hK _ ?_
        clear hK K
        refine Walk.condF rfl (Walk.skip (Walk.inBlock (Walk.region' rfl fun K hK => ?_)))
        simp only [go_sem, seval, c92, k123, c125, g130]
        refine hK _ ?_
        clear hK K
        exact Walk.weaken _ (by simp [c92, k123, c125, g130] <;> omega) (by simp [c92, k123, c125, g130] <;> omega) (ih119 _ (cont_elim hx))
      refine Walk.exit rfl ?_
      obtain ⟨z136, e137, hx⟩ := exit_elim hx
      rw [hr120 z136 e137] at hx
      refine Walk.seq (Walk.region' rfl fun K hK => ?_)
      obtain ⟨v60, h138, hx⟩ := bind_elim hx
      simp only [go_sem, seval, c92, k123, c125]
      refine VCl.pure rfl (by simp only [go_sem, seval, c92, k123, c125]; try simp) (law09_awake_ok _ h138) (by simp only [go_sem, seval, c92, k123, c125]; try simp) (by simp only [go_sem, seval, c92, k123, c125]; try simp) (by simp only [go_sem, seval, c92, k123, c125]; try simp) (by simp only [go_sem, seval, c92, k123, c125]; try simp) (by simp only [go_sem, seval, c92, k123, c125]; try simp) (by simp only [go_sem, seval, c92, k123, c125]; try simp) ?_
      simp only [go_sem, seval, c92, k123, c125]
      refine hK _ ?_
      clear hK K
      obtain rfl := Option.some.inj hx
      exact Walk.ret ⟨by simp [c92, k123, c125], by simp [c92, k123, c125]⟩
    refine Walk.seq (Walk.region' rfl fun K hK => ?_)
    obtain ⟨v61, h140, hx⟩ := bind_elim hx
    have w141 := ((mk_Tape_Next_ok v33 v36.2 2 _ h140).swap 0 1008)
    simp only [renE, renL, AV.ren, AV.rens, AObj.ren, swp, Option.map_some, reduceIte, Nat.reduceEqDiff] at w141
    simp only [go_sem, seval]
    refine VCl.sub [(1008, some (.box [.d (.sl (List.map iD v33)), .d (.int .i64 v36.2)]))] [] rfl (by simp only [go_sem, seval, AV.viewXs, AV.viewX, avD]; try simp) (w141) (by simp) (by simp) (by simp) (by simp) (by simp) (by simp) (by simp) (by simp) (by simp) (by simp) ?_
    simp only [go_sem, seval]
    refine VGdO hx (fun g142 hx => ?_) (fun g142 hx => ?_)
    · simp only [go_sem, seval, g142]
      refine hK _ ?_
      clear hK K
      refine Walk.weaken ⟨[(7, .box 1008 0), (8, .box 8 0), (9, .d (.int .i64 (v34.2.2.length : Int))), (10, .arr 1011 0 v35.2.length), (11, .box 11 0), (53, .d (.bool (decide (v36.1 ≥ 0))))], [(8, some (.box [.arr 1009 0 v34.2.2.length, .arr 1010 0 v34.2.1.length])), (11, some (.box [.d (.int .i64 3), .d (.int .i64 0), .d (.int .i64 0), .d (.int .i64 0), .d (.int .i64 v36.1), .d (.int .i64 v39), .d (.int .i64 v40)])), (1008, some (.box [.d (.sl (List.map iD v33)), .d (.int .i64 v61.2)])), (1009, some (.arr 3 1 (List.map iD v34.2.2))), (1010, some (.arr 64 3 (List.map Row.D v34.2.1))), (1011, some (.arr 3 1 (List.map iD v35.2)))]⟩ (by simp [g142] <;> omega) (by simp [g142] <;> omega) ?_
      refine Walk.condO rfl hx (fun c143 hx => ?_) (fun c143 hx => ?_)
      · refine Walk.region' rfl fun K hK => ?_
        obtain ⟨v62, h144, hx⟩ := bind_elim hx
        have w145 := ((mk_Tape_Range_ok v33 v61.2 (-5) 9 _ h144).swap 0 1008)
        simp only [renE, renL, AV.ren, AV.rens, AObj.ren, swp, Option.map_some, reduceIte, Nat.reduceEqDiff] at w145
        simp only [go_sem, seval, g142, c143]
        refine VCl.sub [(1008, some (.box [.d (.sl (List.map iD v33)), .d (.int .i64 v61.2)]))] [] rfl (by simp only [go_sem, seval, AV.viewXs, AV.viewX, avD, g142, c143]; try simp) (w145) (by simp [g142, c143]) (by simp [g142, c143]) (by simp [g142, c143]) (by simp [g142, c143]) (by simp [g142, c143]) (by simp [g142, c143]) (by simp [g142, c143]) (by simp [g142, c143]) (by simp [g142, c143]) (by simp [g142, c143]) ?_
        obtain ⟨v63, h146, hx⟩ := bind_elim hx
        have w147 := ((mk_Tape_Range_ok v33 v62.2 1 3 _ h146).swap 0 1008)
        simp only [renE, renL, AV.ren, AV.rens, AObj.ren, swp, Option.map_some, reduceIte, Nat.reduceEqDiff] at w147
        simp only [go_sem, seval, g142, c143]
        refine VCl.sub [(1008, some (.box [.d (.sl (List.map iD v33)), .d (.int .i64 v62.2)]))] [] rfl (by simp only [go_sem, seval, AV.viewXs, AV.viewX, avD, g142, c143]; try simp) (w147) (by simp [g142, c143]) (by simp [g142, c143]) (by simp [g142, c143]) (by simp [g142, c143]) (by simp [g142, c143]) (by simp [g142, c143]) (by simp [g142, c143]) (by simp [g142, c143]) (by simp [g142, c143]) (by simp [g142, c143]) ?_
        simp only [go_sem, seval, g142, c143]
        refine hK _ ?_
        clear hK K
        refine Walk.weaken ⟨[(8, .box 8 0), (9, .d (.int .i64 (v34.2.2.length : Int))), (10, .arr 1011 0 v35.2.length), (11, .box 11 0)], [(8, some (.box [.arr 1009 0 v34.2.2.length, .arr 1010 0 v34.2.1.length])), (11, some (.box [.d (.int .i64 3), .d (.int .i64 0), .d (.int .i64 0), .d (.int .i64 0), .d (.int .i64 v36.1), .d (.int .i64 v62.1), .d (.int .i64 v63.1)])), (1009, some (.arr 3 1 (List.map iD v34.2.2))), (1010, some (.arr 64 3 (List.map Row.D v34.2.1))), (1011, some (.arr 3 1 (List.map iD v35.2)))]⟩ (by simp [g142, c143] <;> omega) (by simp [g142, c143] <;> omega) ?_
        exact Walk.weaken _ (by simp [g142, c143] <;> omega) (by simp [g142, c143] <;> omega) (fin88 (v62.1, v63.1) hx)
      refine Walk.skip ?_
      exact Walk.weaken _ (by simp [g142, c143] <;> omega) (by simp [g142, c143] <;> omega) (fin88 (v39, v40) hx)
    simp only [go_sem, seval, g142]
    refine hK _ ?_
    clear hK K
    refine Walk.weaken ⟨[(7, .box 1008 0), (8, .box 8 0), (9, .d (.int .i64 (v34.2.2.length : Int))), (10, .arr 1011 0 v35.2.length), (11, .box 11 0), (53, .d (.bool false))], [(8, some (.box [.arr 1009 0 v34.2.2.length, .arr 1010 0 v34.2.1.length])), (11, some (.box [.d (.int .i64 3), .d (.int .i64 0), .d (.int .i64 0), .d (.int .i64 0), .d (.int .i64 v36.1), .d (.int .i64 v39), .d (.int .i64 v40)])), (1008, some (.box [.d (.sl (List.map iD v33)), .d (.int .i64 v61.2)])), (1009, some (.arr 3 1 (List.map iD v34.2.2))), (1010, some (.arr 64 3 (List.map Row.D v34.2.1))), (1011, some (.arr 3 1 (List.map iD v35.2)))]⟩ (by simp [g142] <;> omega) (by simp [g142] <;> omega) ?_
    refine Walk.condF rfl (Walk.skip ?_)
    exact Walk.weaken _ (by simp [g142] <;> omega) (by simp [g142] <;> omega) (fin88 (v39, v40) hx)
  refine Walk.seq (Walk.region' rfl fun K hK => ?_)
  simp only [go_sem, seval]
  refine hK _ ?_
  clear hK K
  refine Walk.condO rfl hx (fun c148 hx => ?_) (fun c148 hx => ?_)
  · refine Walk.region' rfl fun K hK => ?_
    simp only [go_sem, seval, c148]
    refine hK _ ?_
    clear hK K
    exact Walk.weaken _ (by simp [c148] <;> omega) (by simp [c148] <;> omega) (fin79 (0, 1) hx)
  refine Walk.skip ?_
  exact Walk.weaken _ (by simp [c148] <;> omega) (by simp [c148] <;> omega) (fin79 (IntKind.i64.wrap (v37 - 10000), IntKind.i64.wrap (1 + v38)) hx)
noncomputable def law09_OptimalitySound_l2 (v75 : Int × List Row × List Int) (v108 : List Int) (v109 : List Row) (v132 : Int × Bool × Int) (v87 : Int) (v131 : Int) (v136 : Int) : Option ((Int) ⊕ ((Int × List Int × List Row × Int) ⊕ (Bool))) :=
  chk (0 ≤ (IntKind.u64.wrap ((v75.2.2.length : Int)))) (bif decide (v136 < (IntKind.i64.wrap (1 * 2 ^ (min (IntKind.u64.wrap ((v75.2.2.length : Int))).toNat 64)))) then ((ref08_Subset (v75.2.2.length : Int) v136).bind fun v140 => (blueprint_Cost v108 v109 v140).bind fun v141 => (blueprint_Meets v108 v109 v140).bind fun v142 => bif v142 then (bif !v132.2.1 then (exitO (exitO (some (false : Bool)))) else (bif decide (v141.1 < v132.1) then (exitO (exitO (some (false : Bool)))) else (contO (IntKind.i64.wrap (v136 + 1) : Int)))) else (contO (IntKind.i64.wrap (v136 + 1) : Int))) else (exitO (contO ((IntKind.i64.wrap (v87 + 1), v108, v109, v131) : Int × List Int × List Row × Int))))
noncomputable def law09_OptimalitySound_j1 (v108 : List Int) (v109 : List Row) (v87 : Int) (v75 : Int × List Row × List Int) (v130 : List Node) (v131 : Int) : Option ((Int × List Int × List Row × Int) ⊕ (Bool)) :=
  (optimality_Proved v108 v109 v130).bind fun v132 => bif decide (¬ v132.2.2 = 0) then (contO ((IntKind.i64.wrap (v87 + 1), v108, v109, v131) : Int × List Int × List Row × Int)) else (iter (fun g : Int => law09_OptimalitySound_l2 v75 v108 v109 v132 v87 v131 g) 0)
noncomputable def law09_OptimalitySound_l0 (v74 : List Int) (v75 : Int × List Row × List Int) (v2 : List Node) (v87 : Int) (v108 : List Int) (v109 : List Row) (v110 : Int) : Option ((Int × List Int × List Row × Int) ⊕ (Bool)) :=
  bif decide (v87 < 2) then (bif decide (v87 = 1) then ((mk_Tape_Next v74 v110 2).bind fun v143 => (mk_Tape_Tree v74 v143.2 v108 v109 (decide (v143.1 = 1))).bind fun v144 => (mk_Tape_Bent v74 v144.1 v144.2 3).bind fun v145 => law09_OptimalitySound_j1 v108 v109 v87 v75 v145.1 v145.2) else (law09_OptimalitySound_j1 v108 v109 v87 v75 v2 v110)) else (exitO ((law09_awake).bind fun v146 => some (v146 : Bool)))
noncomputable def law09_OptimalitySound (v1 : List Int) (v2 : List Node) : Option (Bool) :=
  (mk_New v1).bind fun v74 => (mk_Tape_Program v74 0 5 0).bind fun v75 => bif decide ((v2.length : Int) > 40) then (some (true : Bool)) else (iter (fun g : Int × List Int × List Row × Int => law09_OptimalitySound_l0 v74 v75 v2 g.1 g.2.1 g.2.2.1 g.2.2.2) (0, v75.2.2, v75.2.1, v75.1))
theorem law09_OptimalitySound_ok (v1 : List Int) (v2 : List Node) (r : Bool) (hx : law09_OptimalitySound v1 v2 = some r) :
    ACalls Try.prog 9 [.d (.sl (List.map iD v1)), .d (.sl (List.map Node.D v2))] [] (.d (.bool r)) [] := by
  refine ACalls.of_sem (n := 80) 0 [4] (fn := Try.f9) Try.func9 rfl rfl (.one rfl) rfl (by simp) (by intro i; simp only [hget]; (repeat' split) <;> simp <;> omega) ?_
  unfold law09_OptimalitySound at hx
  refine Walk.seq (Walk.region' rfl fun K hK => ?_)
  simp only [go_sem, seval]
  refine hK _ ?_
  clear hK K
  refine Walk.seq (Walk.region' rfl fun K hK => ?_)
  obtain ⟨v74, h223, hx⟩ := bind_elim hx
  have w224 := ((mk_New_ok v1 _ h223).swap 2000 1019)
  simp only [renE, renL, AV.ren, AV.rens, AObj.ren, swp, Option.map_some, reduceIte, Nat.reduceEqDiff] at w224
  simp only [go_sem, seval]
  refine VCl.sub [] [] rfl (by simp only [go_sem, seval, AV.viewXs, AV.viewX, avD]; try simp) (w224) (by simp) (by simp) (by simp) (by simp) (by simp) (by simp) (by simp) (by simp) (by simp) (by simp) ?_
  simp only [go_sem, seval]
  refine hK _ ?_
  clear hK K
  refine Walk.weaken ⟨[(1, .d (.sl (List.map Node.D v2))), (5, .box 1019 0)], [(1019, some (.box [.d (.sl (List.map iD v74)), .d (.int .i64 0)]))]⟩ (by simp <;> omega) (by simp <;> omega) ?_
  refine Walk.seq (Walk.region' rfl fun K hK => ?_)
  obtain ⟨v75, h225, hx⟩ := bind_elim hx
  have w226 := ((((mk_Tape_Program_ok v74 0 5 0 _ h225).swap 0 1019).swap 2001 1020).swap 2002 1021)
  simp only [renE, renL, AV.ren, AV.rens, AObj.ren, swp, Option.map_some, reduceIte, Nat.reduceEqDiff] at w226
  simp only [go_sem, seval]
  refine VCl.sub [(1019, some (.box [.d (.sl (List.map iD v74)), .d (.int .i64 0)]))] [] rfl (by simp only [go_sem, seval, AV.viewXs, AV.viewX, avD]; try simp) (w226) (by simp) (by simp) (by simp) (by simp) (by simp) (by simp) (by simp) (by simp) (by simp) (by simp) ?_
  simp only [go_sem, seval]
  refine hK _ ?_
  clear hK K
  refine Walk.weaken ⟨[(1, .d (.sl (List.map Node.D v2))), (5, .box 1019 0), (6, .box 6 0)], [(6, some (.box [.arr 1020 0 v75.2.2.length, .arr 1021 0 v75.2.1.length])), (1019, some (.box [.d (.sl (List.map iD v74)), .d (.int .i64 v75.1)])), (1020, some (.arr 3 1 (List.map iD v75.2.2))), (1021, some (.arr 64 3 (List.map Row.D v75.2.1)))]⟩ (by simp <;> omega) (by simp <;> omega) ?_
  refine Walk.seq (Walk.region' rfl fun K hK => ?_)
  simp only [go_sem, seval]
  refine hK _ ?_
  clear hK K
  refine Walk.seq (Walk.seq (Walk.region' rfl fun K hK => ?_))
  simp only [go_sem, seval]
  refine hK _ ?_
  clear hK K
  refine Walk.condO rfl hx (fun c229 hx => ?_) (fun c229 hx => ?_)
  · refine Walk.seq (Walk.region' rfl fun K hK => ?_)
    simp only [go_sem, seval, c229]
    refine hK _ ?_
    clear hK K
    obtain rfl := Option.some.inj hx
    exact Walk.ret ⟨by simp [c229], by simp [c229]⟩
  refine Walk.skip (Walk.seq (Walk.seq (Walk.region' rfl fun K hK => ?_)))
  simp only [go_sem, seval, c229]
  refine hK _ ?_
  clear hK K
  refine Walk.block (Walk.loop ?_)
  refine Walk.weaken ⟨[(1, .d (.sl (List.map Node.D v2))), (5, .box 1019 0), (6, .box 6 0), (7, .d (.int .i64 (v75.2.2.length : Int))), (8, .d (.int .i64 0))], [(6, some (.box [.arr 1020 0 v75.2.2.length, .arr 1021 0 v75.2.1.length])), (1019, some (.box [.d (.sl (List.map iD v74)), .d (.int .i64 v75.1)])), (1020, some (.arr 3 1 (List.map iD v75.2.2))), (1021, some (.arr 64 3 (List.map Row.D v75.2.1)))]⟩ (by simp [c229] <;> omega) (by simp [c229] <;> omega) ?_
  refine Walk.freeze 1020 3 1 (List.map iD v75.2.2) [(1, .d (.sl (List.map Node.D v2))), (5, .box 1019 0), (6, .box 6 0), (7, .d (.int .i64 (v75.2.2.length : Int))), (8, .d (.int .i64 0))] [(6, some (.box [.d (.sl (List.map iD v75.2.2)), .arr 1021 0 v75.2.1.length])), (1019, some (.box [.d (.sl (List.map iD v74)), .d (.int .i64 v75.1)])), (1021, some (.arr 64 3 (List.map Row.D v75.2.1)))] (by simp) (by simp) (by simp) ?_
  refine Walk.freeze 1021 64 3 (List.map Row.D v75.2.1) [(1, .d (.sl (List.map Node.D v2))), (5, .box 1019 0), (6, .box 6 0), (7, .d (.int .i64 (v75.2.2.length : Int))), (8, .d (.int .i64 0))] [(6, some (.box [.d (.sl (List.map iD v75.2.2)), .d (.sl (List.map Row.D v75.2.1))])), (1019, some (.box [.d (.sl (List.map iD v74)), .d (.int .i64 v75.1)]))] (by simp) (by simp) (by simp) ?_
  refine Walk.weaken ⟨[(1, .d (.sl (List.map Node.D v2))), (5, .box 1019 0), (6, .box 6 0), (7, .d (.int .i64 (v75.2.2.length : Int))), (8, .d (.int .i64 0))], [(6, some (.box [.d (.sl (List.map iD v75.2.2)), .d (.sl (List.map Row.D v75.2.1))])), (1019, some (.box [.d (.sl (List.map iD v74)), .d (.int .i64 v75.1)]))]⟩ (by simp [c229] <;> omega) (by simp [c229] <;> omega) ?_
  refine Walk.iter (σ := Int × List Int × List Row × Int) (fun g => ⟨[(1, .d (.sl (List.map Node.D v2))), (5, .box 1019 0), (6, .box 6 0), (7, .d (.int .i64 (v75.2.2.length : Int))), (8, .d (.int .i64 g.1))], [(6, some (.box [.d (.sl (List.map iD g.2.1)), .d (.sl (List.map Row.D g.2.2.1))])), (1019, some (.box [.d (.sl (List.map iD v74)), .d (.int .i64 g.2.2.2)]))]⟩) (fun g : Int × List Int × List Row × Int => law09_OptimalitySound_l0 v74 v75 v2 g.1 g.2.1 g.2.2.1 g.2.2.2) _ (fun g y462 hx ih386 hr387 => ?_) (0, v75.2.2, v75.2.1, v75.1) hx
  obtain ⟨v87, v108, v109, v110⟩ := g
  unfold law09_OptimalitySound_l0 at hx
  try dsimp only at hx ⊢
  refine Walk.seq (Walk.seq (Walk.region' rfl fun K hK => ?_))
  simp only [go_sem, seval, c229]
  refine hK _ ?_
  clear hK K
  refine Walk.condO rfl hx (fun c390 hx => ?_) (fun c390 hx => ?_)
  · refine Walk.skip (Walk.seq (Walk.block (Walk.seq (Walk.region' rfl fun K hK => ?_))))
    simp only [go_sem, seval, c229, c390]
    refine hK _ ?_
    clear hK K
    refine Walk.seq (Walk.join (G := List Node × Int) (fun g => ⟨[(1, .d (.sl (List.map Node.D v2))), (5, .box 1019 0), (6, .box 6 0), (7, .d (.int .i64 (v75.2.2.length : Int))), (8, .d (.int .i64 v87)), (9, .d (.sl (List.map Node.D g.1)))], [(6, some (.box [.d (.sl (List.map iD v108)), .d (.sl (List.map Row.D v109))])), (1019, some (.box [.d (.sl (List.map iD v74)), .d (.int .i64 g.2)]))]⟩) (fun g => law09_OptimalitySound_j1 v108 v109 v87 v75 g.1 g.2) hx (fun g hx => ?_) (fun fin398 => ?_))
    · obtain ⟨v130, v131⟩ := g
      unfold law09_OptimalitySound_j1 at hx
      try dsimp only at hx ⊢
      refine Walk.seq (Walk.region' rfl fun K hK => ?_)
      obtain ⟨v132, h399, hx⟩ := bind_elim hx
      simp only [go_sem, seval, c229, c390]
      refine VCl.pure rfl (by simp only [go_sem, seval, c229, c390]; try simp) (optimality_Proved_ok v108 v109 v130 _ h399) (by simp only [go_sem, seval, c229, c390]; try simp) (by simp only [go_sem, seval, c229, c390]; try simp) (by simp only [go_sem, seval, c229, c390]; try simp) (by simp only [go_sem, seval, c229, c390]; try simp) (by simp only [go_sem, seval, c229, c390]; try simp) (by simp only [go_sem, seval, c229, c390]; try simp) ?_
      simp only [go_sem, seval, c229, c390]
      refine hK _ ?_
      clear hK K
      refine Walk.seq (Walk.seq (Walk.region' rfl fun K hK => ?_))
      simp only [go_sem, seval, c229, c390]
      refine hK _ ?_
      clear hK K
      refine Walk.condO rfl hx (fun c402 hx => ?_) (fun c402 hx => ?_)
      · refine Walk.exit rfl (Walk.region' rfl fun K hK => ?_)
        simp only [go_sem, seval, c229, c390, c402]
        refine hK _ ?_
        clear hK K
        exact Walk.weaken _ (by simp [c229, c390, c402] <;> omega) (by simp [c229, c390, c402] <;> omega) (ih386 _ (cont_elim hx))
      refine Walk.skip (Walk.seq (Walk.region' rfl fun K hK => ?_))
      simp only [go_sem, seval, c229, c390, c402]
      refine hK _ ?_
      clear hK K
      refine Walk.block (Walk.loop ?_)
      refine Walk.weaken ⟨[(1, .d (.sl (List.map Node.D v2))), (5, .box 1019 0), (6, .box 6 0), (7, .d (.int .i64 (v75.2.2.length : Int))), (8, .d (.int .i64 v87)), (10, .d (.int .i64 v132.1)), (11, .d (.bool v132.2.1)), (13, .d (.int .i64 0))], [(6, some (.box [.d (.sl (List.map iD v108)), .d (.sl (List.map Row.D v109))])), (1019, some (.box [.d (.sl (List.map iD v74)), .d (.int .i64 v131)]))]⟩ (by simp [c229, c390, c402] <;> omega) (by simp [c229, c390, c402] <;> omega) ?_
      refine Walk.iter (σ := Int) (fun g => ⟨[(1, .d (.sl (List.map Node.D v2))), (5, .box 1019 0), (6, .box 6 0), (7, .d (.int .i64 (v75.2.2.length : Int))), (8, .d (.int .i64 v87)), (10, .d (.int .i64 v132.1)), (11, .d (.bool v132.2.1)), (13, .d (.int .i64 g))], [(6, some (.box [.d (.sl (List.map iD v108)), .d (.sl (List.map Row.D v109))])), (1019, some (.box [.d (.sl (List.map iD v74)), .d (.int .i64 v131)]))]⟩) (fun g : Int => law09_OptimalitySound_l2 v75 v108 v109 v132 v87 v131 g) _ (fun v136 y451 hx ih427 hr428 => ?_) 0 hx
      unfold law09_OptimalitySound_l2 at hx
      try dsimp only at hx ⊢
      refine Walk.seq (Walk.seq (Walk.region' rfl fun K hK => ?_))
      obtain ⟨k431, hx⟩ := chk_elim hx
      simp only [go_sem, seval, c229, c390, c402, k431]
      repeat refine And.intro (by first | omega | (simp; done) | (simp; omega)) ?_
      refine hK _ ?_
      clear hK K
      refine Walk.condO rfl hx (fun c433 hx => ?_) (fun c433 hx => ?_)
      · refine Walk.skip (Walk.seq (Walk.block (Walk.seq (Walk.region' rfl fun K hK => ?_))))
        obtain ⟨v140, h434, hx⟩ := bind_elim hx
        have w435 := ((ref08_Subset_ok (v75.2.2.length : Int) v136 _ h434).swap 2000 1036)
        simp only [renE, renL, AV.ren, AV.rens, AObj.ren, swp, Option.map_some, reduceIte, Nat.reduceEqDiff] at w435
        simp only [go_sem, seval, c229, c390, c402, k431, c433]
        refine VCl.pure rfl (by simp only [go_sem, seval, c229, c390, c402, k431, c433]; try simp) (w435) (by simp only [go_sem, seval, c229, c390, c402, k431, c433]; try simp) (by simp only [go_sem, seval, c229, c390, c402, k431, c433]; try simp) (by simp only [go_sem, seval, c229, c390, c402, k431, c433]; try simp) (by simp only [go_sem, seval, c229, c390, c402, k431, c433]; try simp) (by simp only [go_sem, seval, c229, c390, c402, k431, c433]; try simp) (by simp only [go_sem, seval, c229, c390, c402, k431, c433]; try simp) ?_
        simp only [go_sem, seval, c229, c390, c402, k431, c433]
        refine hK _ ?_
        clear hK K
        refine Walk.weaken ⟨[(1, .d (.sl (List.map Node.D v2))), (5, .box 1019 0), (6, .box 6 0), (7, .d (.int .i64 (v75.2.2.length : Int))), (8, .d (.int .i64 v87)), (10, .d (.int .i64 v132.1)), (11, .d (.bool v132.2.1)), (13, .d (.int .i64 v136)), (14, .arr 1036 0 v140.length)], [(6, some (.box [.d (.sl (List.map iD v108)), .d (.sl (List.map Row.D v109))])), (1019, some (.box [.d (.sl (List.map iD v74)), .d (.int .i64 v131)])), (1036, some (.arr 3 1 (List.map iD v140)))]⟩ (by simp [c229, c390, c402, k431, c433] <;> omega) (by simp [c229, c390, c402, k431, c433] <;> omega) ?_
        refine Walk.seq (Walk.region' rfl fun K hK => ?_)
        obtain ⟨v141, h436, hx⟩ := bind_elim hx
        simp only [go_sem, seval, c229, c390, c402, k431, c433]
        refine VCl.lent rfl (by simp only [go_sem, seval, c229, c390, c402, k431, c433]; try simp) (blueprint_Cost_ok v108 v109 v140 _ h436) (by simp [c229, c390, c402, k431, c433]) (by simp [c229, c390, c402, k431, c433]) (by simp [c229, c390, c402, k431, c433]) (by simp [c229, c390, c402, k431, c433]) (by simp [c229, c390, c402, k431, c433]) (by simp [c229, c390, c402, k431, c433]) (by simp [c229, c390, c402, k431, c433]) ?_
        simp only [go_sem, seval, c229, c390, c402, k431, c433]
        refine hK _ ?_
        clear hK K
        refine Walk.seq (Walk.region' rfl fun K hK => ?_)
        obtain ⟨v142, h437, hx⟩ := bind_elim hx
        simp only [go_sem, seval, c229, c390, c402, k431, c433]
        refine VCl.lent rfl (by simp only [go_sem, seval, c229, c390, c402, k431, c433]; try simp) (blueprint_Meets_ok v108 v109 v140 _ h437) (by simp [c229, c390, c402, k431, c433]) (by simp [c229, c390, c402, k431, c433]) (by simp [c229, c390, c402, k431, c433]) (by simp [c229, c390, c402, k431, c433]) (by simp [c229, c390, c402, k431, c433]) (by simp [c229, c390, c402, k431, c433]) (by simp [c229, c390, c402, k431, c433]) ?_
        simp only [go_sem, seval, c229, c390, c402, k431, c433]
        refine VGdO hx (fun g438 hx => ?_) (fun g438 hx => ?_)
        · simp only [go_sem, seval, c229, c390, c402, k431, c433, g438]
          refine VGdO hx (fun g439 hx => ?_) (fun g439 hx => ?_)
          · simp only [go_sem, seval, c229, c390, c402, k431, c433, g438, g439]
            refine hK _ ?_
            clear hK K
            refine Walk.condT rfl (Walk.seq (Walk.region' rfl fun K hK => ?_))
            simp only [go_sem, seval, c229, c390, c402, k431, c433, g438, g439]
            refine hK _ ?_
            clear hK K
            obtain ⟨z440, e441, hx⟩ := exit_elim hx
            rw [hr428 z440 e441] at hx
            obtain ⟨z442, e443, hx⟩ := exit_elim hx
            rw [hr387 z442 e443] at hx
            obtain rfl := Option.some.inj hx
            exact Walk.ret ⟨by simp [c229, c390, c402, k431, c433, g438, g439], by simp [c229, c390, c402, k431, c433, g438, g439]⟩
          simp only [go_sem, seval, c229, c390, c402, k431, c433, g438, g439]
          refine hK _ ?_
          clear hK K
          refine Walk.condO rfl hx (fun c444 hx => ?_) (fun c444 hx => ?_)
          · refine Walk.seq (Walk.region' rfl fun K hK => ?_)
            simp only [go_sem, seval, c229, c390, c402, k431, c433, g438, g439, c444]
            refine hK _ ?_
            clear hK K
            obtain ⟨z445, e446, hx⟩ := exit_elim hx
            rw [hr428 z445 e446] at hx
            obtain ⟨z447, e448, hx⟩ := exit_elim hx
            rw [hr387 z447 e448] at hx
            obtain rfl := Option.some.inj hx
            exact Walk.ret ⟨by simp [c229, c390, c402, k431, c433, g438, g439, c444], by simp [c229, c390, c402, k431, c433, g438, g439, c444]⟩
          refine Walk.skip (Walk.inBlock (Walk.region' rfl fun K hK => ?_))
          simp only [go_sem, seval, c229, c390, c402, k431, c433, g438, g439, c444]
          refine hK _ ?_
          clear hK K
          exact Walk.weaken _ (by simp [c229, c390, c402, k431, c433, g438, g439, c444] <;> omega) (by simp [c229, c390, c402, k431, c433, g438, g439, c444] <;> omega) (ih427 _ (cont_elim hx))
        simp only [go_sem, seval, c229, c390, c402, k431, c433, g438]
        refine hK _ ?_
        clear hK K
        refine Walk.condF rfl (Walk.skip (Walk.inBlock (Walk.region' rfl fun K hK => ?_)))
        simp only [go_sem, seval, c229, c390, c402, k431, c433, g438]
        refine hK _ ?_
        clear hK K
        exact Walk.weaken _ (by simp [c229, c390, c402, k431, c433, g438] <;> omega) (by simp [c229, c390, c402, k431, c433, g438] <;> omega) (ih427 _ (cont_elim hx))
      refine Walk.exit rfl ?_
      obtain ⟨z449, e450, hx⟩ := exit_elim hx
      rw [hr428 z449 e450] at hx
      refine Walk.inBlock (Walk.region' rfl fun K hK => ?_)
      simp only [go_sem, seval, c229, c390, c402, k431, c433]
      refine hK _ ?_
      clear hK K
      exact Walk.weaken _ (by simp [c229, c390, c402, k431, c433] <;> omega) (by simp [c229, c390, c402, k431, c433] <;> omega) (ih386 _ (cont_elim hx))
    refine Walk.seq (Walk.region' rfl fun K hK => ?_)
    simp only [go_sem, seval, c229, c390]
    refine hK _ ?_
    clear hK K
    refine Walk.condO rfl hx (fun c452 hx => ?_) (fun c452 hx => ?_)
    · refine Walk.drawn' rfl mixed fun K hK => ?_
      obtain ⟨v143, h453, hx⟩ := bind_elim hx
      have w454 := ((mk_Tape_Next_ok v74 v110 2 _ h453).swap 0 1019)
      simp only [renE, renL, AV.ren, AV.rens, AObj.ren, swp, Option.map_some, reduceIte, Nat.reduceEqDiff] at w454
      simp only [go_sem, seval, c229, c390, c452]
      refine VCl.sub [(1019, some (.box [.d (.sl (List.map iD v74)), .d (.int .i64 v110)]))] [] rfl (by simp only [go_sem, seval, AV.viewXs, AV.viewX, avD, c229, c390, c452]; try simp) (w454) (by simp [c229, c390, c452]) (by simp [c229, c390, c452]) (by simp [c229, c390, c452]) (by simp [c229, c390, c452]) (by simp [c229, c390, c452]) (by simp [c229, c390, c452]) (by simp [c229, c390, c452]) (by simp [c229, c390, c452]) (by simp [c229, c390, c452]) (by simp [c229, c390, c452]) ?_
      obtain ⟨v144, h455, hx⟩ := bind_elim hx
      have w456 := (((mk_Tape_Tree_ok v74 v143.2 v108 v109 (decide (v143.1 = 1)) _ h455).swap 0 1019).swap 2000 1037)
      simp only [renE, renL, AV.ren, AV.rens, AObj.ren, swp, Option.map_some, reduceIte, Nat.reduceEqDiff] at w456
      simp only [go_sem, seval, c229, c390, c452]
      refine VCl.sub [(1019, some (.box [.d (.sl (List.map iD v74)), .d (.int .i64 v143.2)]))] [] rfl (by simp only [go_sem, seval, AV.viewXs, AV.viewX, avD, c229, c390, c452]; try simp) (w456) (by simp [c229, c390, c452]) (by simp [c229, c390, c452]) (by simp [c229, c390, c452]) (by simp [c229, c390, c452]) (by simp [c229, c390, c452]) (by simp [c229, c390, c452]) (by simp [c229, c390, c452]) (by simp [c229, c390, c452]) (by simp [c229, c390, c452]) (by simp [c229, c390, c452]) ?_
      obtain ⟨v145, h457, hx⟩ := bind_elim hx
      have w458 := ((mk_Tape_Bent_ok v74 v144.1 v144.2 3 _ h457).swap 0 1019)
      simp only [renE, renL, AV.ren, AV.rens, AObj.ren, swp, Option.map_some, reduceIte, Nat.reduceEqDiff] at w458
      simp only [go_sem, seval, c229, c390, c452]
      refine VCl.sub [(1019, some (.box [.d (.sl (List.map iD v74)), .d (.int .i64 v144.1)]))] [1037] rfl (by simp only [go_sem, seval, AV.viewXs, AV.viewX, avD, c229, c390, c452]; try simp) (w458) (by simp [c229, c390, c452]) (by simp [c229, c390, c452]) (by simp [c229, c390, c452]) (by simp [c229, c390, c452]) (by simp [c229, c390, c452]) (by simp [c229, c390, c452]) (by simp [c229, c390, c452]) (by simp [c229, c390, c452]) (by simp [c229, c390, c452]) (by simp [c229, c390, c452]) ?_
      simp only [go_sem, seval, c229, c390, c452]
      refine hK _ _ (by kernel_rfl) (by simp [c229, c390, c452]) ?_
      clear hK K
      refine Walk.weaken ⟨[(1, .d (.sl (List.map Node.D v2))), (5, .box 1019 0), (6, .box 6 0), (7, .d (.int .i64 (v75.2.2.length : Int))), (8, .d (.int .i64 v87)), (9, .d (.sl (List.map Node.D v145.1)))], [(6, some (.box [.d (.sl (List.map iD v108)), .d (.sl (List.map Row.D v109))])), (1019, some (.box [.d (.sl (List.map iD v74)), .d (.int .i64 v145.2)]))]⟩ (by simp [c229, c390, c452] <;> omega) (by simp [c229, c390, c452] <;> omega) ?_
      exact Walk.weaken _ (by simp [c229, c390, c452] <;> omega) (by simp [c229, c390, c452] <;> omega) (fin398 (v145.1, v145.2) hx)
    refine Walk.skip ?_
    exact Walk.weaken _ (by simp [c229, c390, c452] <;> omega) (by simp [c229, c390, c452] <;> omega) (fin398 (v2, v110) hx)
  refine Walk.exit rfl ?_
  obtain ⟨z459, e460, hx⟩ := exit_elim hx
  rw [hr387 z459 e460] at hx
  refine Walk.seq (Walk.region' rfl fun K hK => ?_)
  obtain ⟨v146, h461, hx⟩ := bind_elim hx
  simp only [go_sem, seval, c229, c390]
  refine VCl.pure rfl (by simp only [go_sem, seval, c229, c390]; try simp) (law09_awake_ok _ h461) (by simp only [go_sem, seval, c229, c390]; try simp) (by simp only [go_sem, seval, c229, c390]; try simp) (by simp only [go_sem, seval, c229, c390]; try simp) (by simp only [go_sem, seval, c229, c390]; try simp) (by simp only [go_sem, seval, c229, c390]; try simp) (by simp only [go_sem, seval, c229, c390]; try simp) ?_
  simp only [go_sem, seval, c229, c390]
  refine hK _ ?_
  clear hK K
  obtain rfl := Option.some.inj hx
  exact Walk.ret ⟨by simp [c229, c390], by simp [c229, c390]⟩
noncomputable def law09_OptimalityBest_l0 (v54 : Int × List Row × List Int) (v55 : Int × List Node) (v56 : Int) (v91 : Int) (v92 : Int) (v93 : Int) : Option ((Int × Int × Int) ⊕ (Bool)) :=
  chk (0 ≤ (IntKind.u64.wrap ((v54.2.2.length : Int)))) (bif decide (v93 < (IntKind.i64.wrap (1 * 2 ^ (min (IntKind.u64.wrap ((v54.2.2.length : Int))).toNat 64)))) then ((ref08_Subset (v54.2.2.length : Int) v93).bind fun v98 => (blueprint_Cost v54.2.2 v54.2.1 v98).bind fun v99 => (optimality_Check v54.2.2 v54.2.1 true v98 v99.1 v55.2).bind fun v101 => bif decide (¬ v101 = 0) then (contO ((v91, v92, IntKind.i64.wrap (v93 + 1)) : Int × Int × Int)) else (bif decide (v91 > 0) then (bif decide (¬ v99.1 = v92) then (exitO (some (false : Bool))) else (contO ((IntKind.i64.wrap (v91 + 1), v99.1, IntKind.i64.wrap (v93 + 1)) : Int × Int × Int))) else (contO ((IntKind.i64.wrap (v91 + 1), v99.1, IntKind.i64.wrap (v93 + 1)) : Int × Int × Int)))) else (exitO (bif ((decide (v56 = 0)) == (decide (v91 = 0))) then ((law09_awake).bind fun v102 => some (v102 : Bool)) else (some (false : Bool)))))
noncomputable def law09_OptimalityBest (v1 : List Int) : Option (Bool) :=
  (mk_New v1).bind fun v53 => (mk_Tape_Program v53 0 5 0).bind fun v54 => (mk_Tape_Tree v53 v54.1 v54.2.2 v54.2.1 true).bind fun v55 => (optimality_Check v54.2.2 v54.2.1 false [] 0 v55.2).bind fun v56 => iter (fun g : Int × Int × Int => law09_OptimalityBest_l0 v54 v55 v56 g.1 g.2.1 g.2.2) (0, 0, 0)
theorem law09_OptimalityBest_ok (v1 : List Int) (r : Bool) (hx : law09_OptimalityBest v1 = some r) :
    ACalls Try.prog 10 [.d (.sl (List.map iD v1))] [] (.d (.bool r)) [] := by
  refine ACalls.of_sem (n := 69) 0 [2] (fn := Try.f10) Try.func10 rfl rfl (.one rfl) rfl (by simp) (by intro i; simp only [hget]; (repeat' split) <;> simp <;> omega) ?_
  unfold law09_OptimalityBest at hx
  refine Walk.seq (Walk.region' rfl fun K hK => ?_)
  simp only [go_sem, seval]
  refine hK _ ?_
  clear hK K
  refine Walk.seq (Walk.region' rfl fun K hK => ?_)
  obtain ⟨v53, h151, hx⟩ := bind_elim hx
  have w152 := ((mk_New_ok v1 _ h151).swap 2000 1014)
  simp only [renE, renL, AV.ren, AV.rens, AObj.ren, swp, Option.map_some, reduceIte, Nat.reduceEqDiff] at w152
  simp only [go_sem, seval]
  refine VCl.sub [] [] rfl (by simp only [go_sem, seval, AV.viewXs, AV.viewX, avD]; try simp) (w152) (by simp) (by simp) (by simp) (by simp) (by simp) (by simp) (by simp) (by simp) (by simp) (by simp) ?_
  simp only [go_sem, seval]
  refine hK _ ?_
  clear hK K
  refine Walk.weaken ⟨[(3, .box 1014 0)], [(1014, some (.box [.d (.sl (List.map iD v53)), .d (.int .i64 0)]))]⟩ (by simp <;> omega) (by simp <;> omega) ?_
  refine Walk.seq (Walk.region' rfl fun K hK => ?_)
  obtain ⟨v54, h153, hx⟩ := bind_elim hx
  have w154 := ((((mk_Tape_Program_ok v53 0 5 0 _ h153).swap 0 1014).swap 2001 1015).swap 2002 1016)
  simp only [renE, renL, AV.ren, AV.rens, AObj.ren, swp, Option.map_some, reduceIte, Nat.reduceEqDiff] at w154
  simp only [go_sem, seval]
  refine VCl.sub [(1014, some (.box [.d (.sl (List.map iD v53)), .d (.int .i64 0)]))] [] rfl (by simp only [go_sem, seval, AV.viewXs, AV.viewX, avD]; try simp) (w154) (by simp) (by simp) (by simp) (by simp) (by simp) (by simp) (by simp) (by simp) (by simp) (by simp) ?_
  simp only [go_sem, seval]
  refine hK _ ?_
  clear hK K
  refine Walk.weaken ⟨[(3, .box 1014 0), (4, .box 4 0)], [(4, some (.box [.arr 1015 0 v54.2.2.length, .arr 1016 0 v54.2.1.length])), (1014, some (.box [.d (.sl (List.map iD v53)), .d (.int .i64 v54.1)])), (1015, some (.arr 3 1 (List.map iD v54.2.2))), (1016, some (.arr 64 3 (List.map Row.D v54.2.1)))]⟩ (by simp <;> omega) (by simp <;> omega) ?_
  refine Walk.seq ?_
  refine Walk.weaken ⟨[(3, .box 1014 0), (4, .box 4 0)], [(4, some (.box [.arr 1015 0 v54.2.2.length, .arr 1016 0 v54.2.1.length])), (1014, some (.box [.d (.sl (List.map iD v53)), .d (.int .i64 v54.1)])), (1015, some (.arr 3 1 (List.map iD v54.2.2))), (1016, some (.arr 64 3 (List.map Row.D v54.2.1)))]⟩ (by simp <;> omega) (by simp <;> omega) ?_
  refine Walk.freeze 1015 3 1 (List.map iD v54.2.2) [(3, .box 1014 0), (4, .box 4 0)] [(4, some (.box [.d (.sl (List.map iD v54.2.2)), .arr 1016 0 v54.2.1.length])), (1014, some (.box [.d (.sl (List.map iD v53)), .d (.int .i64 v54.1)])), (1016, some (.arr 64 3 (List.map Row.D v54.2.1)))] (by simp) (by simp) (by simp) ?_
  refine Walk.weaken ⟨[(3, .box 1014 0), (4, .box 4 0)], [(4, some (.box [.d (.sl (List.map iD v54.2.2)), .arr 1016 0 v54.2.1.length])), (1014, some (.box [.d (.sl (List.map iD v53)), .d (.int .i64 v54.1)])), (1016, some (.arr 64 3 (List.map Row.D v54.2.1)))]⟩ (by simp <;> omega) (by simp <;> omega) ?_
  refine Walk.freeze 1016 64 3 (List.map Row.D v54.2.1) [(3, .box 1014 0), (4, .box 4 0)] [(4, some (.box [.d (.sl (List.map iD v54.2.2)), .d (.sl (List.map Row.D v54.2.1))])), (1014, some (.box [.d (.sl (List.map iD v53)), .d (.int .i64 v54.1)]))] (by simp) (by simp) (by simp) ?_
  refine Walk.region' rfl fun K hK => ?_
  obtain ⟨v55, h155, hx⟩ := bind_elim hx
  have w156 := (((mk_Tape_Tree_ok v53 v54.1 v54.2.2 v54.2.1 true _ h155).swap 0 1014).swap 2000 1017)
  simp only [renE, renL, AV.ren, AV.rens, AObj.ren, swp, Option.map_some, reduceIte, Nat.reduceEqDiff] at w156
  simp only [go_sem, seval]
  refine VCl.sub [(1014, some (.box [.d (.sl (List.map iD v53)), .d (.int .i64 v54.1)]))] [] rfl (by simp only [go_sem, seval, AV.viewXs, AV.viewX, avD]; try simp) (w156) (by simp) (by simp) (by simp) (by simp) (by simp) (by simp) (by simp) (by simp) (by simp) (by simp) ?_
  simp only [go_sem, seval]
  refine hK _ ?_
  clear hK K
  refine Walk.weaken ⟨[(4, .box 4 0), (5, .arr 1017 0 v55.2.length)], [(4, some (.box [.d (.sl (List.map iD v54.2.2)), .d (.sl (List.map Row.D v54.2.1))])), (1017, some (.arr 33 7 (List.map Node.D v55.2)))]⟩ (by simp <;> omega) (by simp <;> omega) ?_
  refine Walk.seq (Walk.region' rfl fun K hK => ?_)
  simp only [go_sem, seval]
  refine hK _ ?_
  clear hK K
  refine Walk.seq (Walk.region' rfl fun K hK => ?_)
  obtain ⟨v56, h157, hx⟩ := bind_elim hx
  simp only [go_sem, seval]
  refine VCl.lent rfl (by simp only [go_sem, seval]; try simp) (optimality_Check_ok v54.2.2 v54.2.1 false [] 0 v55.2 _ h157) (by simp) (by simp) (by simp) (by simp) (by simp) (by simp) (by simp) ?_
  simp only [go_sem, seval]
  refine hK _ ?_
  clear hK K
  refine Walk.seq (Walk.seq (Walk.region' rfl fun K hK => ?_))
  simp only [go_sem, seval]
  refine hK _ ?_
  clear hK K
  refine Walk.block (Walk.loop ?_)
  refine Walk.weaken ⟨[(4, .box 4 0), (5, .arr 1017 0 v55.2.length), (6, .d (.int .i64 0)), (7, .d (.int .i64 0)), (8, .d (.bool (decide (v56 = 0)))), (9, .d (.int .i64 0))], [(4, some (.box [.d (.sl (List.map iD v54.2.2)), .d (.sl (List.map Row.D v54.2.1))])), (1017, some (.arr 33 7 (List.map Node.D v55.2)))]⟩ (by simp <;> omega) (by simp <;> omega) ?_
  refine Walk.iter (σ := Int × Int × Int) (fun g => ⟨[(4, .box 4 0), (5, .arr 1017 0 v55.2.length), (6, .d (.int .i64 g.1)), (7, .d (.int .i64 g.2.1)), (8, .d (.bool (decide (v56 = 0)))), (9, .d (.int .i64 g.2.2))], [(4, some (.box [.d (.sl (List.map iD v54.2.2)), .d (.sl (List.map Row.D v54.2.1))])), (1017, some (.arr 33 7 (List.map Node.D v55.2)))]⟩) (fun g : Int × Int × Int => law09_OptimalityBest_l0 v54 v55 v56 g.1 g.2.1 g.2.2) _ (fun g y303 hx ih280 hr281 => ?_) (0, 0, 0) hx
  obtain ⟨v91, v92, v93⟩ := g
  unfold law09_OptimalityBest_l0 at hx
  try dsimp only at hx ⊢
  refine Walk.seq (Walk.seq (Walk.region' rfl fun K hK => ?_))
  obtain ⟨k284, hx⟩ := chk_elim hx
  simp only [go_sem, seval, k284]
  repeat refine And.intro (by first | omega | (simp; done) | (simp; omega)) ?_
  refine hK _ ?_
  clear hK K
  refine Walk.condO rfl hx (fun c286 hx => ?_) (fun c286 hx => ?_)
  · refine Walk.skip (Walk.seq (Walk.block (Walk.seq (Walk.region' rfl fun K hK => ?_))))
    obtain ⟨v98, h287, hx⟩ := bind_elim hx
    have w288 := ((ref08_Subset_ok (v54.2.2.length : Int) v93 _ h287).swap 2000 1026)
    simp only [renE, renL, AV.ren, AV.rens, AObj.ren, swp, Option.map_some, reduceIte, Nat.reduceEqDiff] at w288
    simp only [go_sem, seval, k284, c286]
    refine VCl.pure rfl (by simp only [go_sem, seval, k284, c286]; try simp) (w288) (by simp only [go_sem, seval, k284, c286]; try simp) (by simp only [go_sem, seval, k284, c286]; try simp) (by simp only [go_sem, seval, k284, c286]; try simp) (by simp only [go_sem, seval, k284, c286]; try simp) (by simp only [go_sem, seval, k284, c286]; try simp) (by simp only [go_sem, seval, k284, c286]; try simp) ?_
    simp only [go_sem, seval, k284, c286]
    refine hK _ ?_
    clear hK K
    refine Walk.weaken ⟨[(4, .box 4 0), (5, .arr 1017 0 v55.2.length), (6, .d (.int .i64 v91)), (7, .d (.int .i64 v92)), (8, .d (.bool (decide (v56 = 0)))), (9, .d (.int .i64 v93)), (10, .arr 1026 0 v98.length)], [(4, some (.box [.d (.sl (List.map iD v54.2.2)), .d (.sl (List.map Row.D v54.2.1))])), (1017, some (.arr 33 7 (List.map Node.D v55.2))), (1026, some (.arr 3 1 (List.map iD v98)))]⟩ (by simp [k284, c286] <;> omega) (by simp [k284, c286] <;> omega) ?_
    refine Walk.seq (Walk.region' rfl fun K hK => ?_)
    obtain ⟨v99, h289, hx⟩ := bind_elim hx
    simp only [go_sem, seval, k284, c286]
    refine VCl.lent rfl (by simp only [go_sem, seval, k284, c286]; try simp) (blueprint_Cost_ok v54.2.2 v54.2.1 v98 _ h289) (by simp [k284, c286]) (by simp [k284, c286]) (by simp [k284, c286]) (by simp [k284, c286]) (by simp [k284, c286]) (by simp [k284, c286]) (by simp [k284, c286]) ?_
    simp only [go_sem, seval, k284, c286]
    refine hK _ ?_
    clear hK K
    refine Walk.seq (Walk.seq (Walk.region' rfl fun K hK => ?_))
    obtain ⟨v101, h292, hx⟩ := bind_elim hx
    simp only [go_sem, seval, k284, c286]
    refine VCl.lent rfl (by simp only [go_sem, seval, k284, c286]; try simp) (optimality_Check_ok v54.2.2 v54.2.1 true v98 v99.1 v55.2 _ h292) (by simp [k284, c286]) (by simp [k284, c286]) (by simp [k284, c286]) (by simp [k284, c286]) (by simp [k284, c286]) (by simp [k284, c286]) (by simp [k284, c286]) ?_
    simp only [go_sem, seval, k284, c286]
    refine hK _ ?_
    clear hK K
    refine Walk.condO rfl hx (fun c294 hx => ?_) (fun c294 hx => ?_)
    · refine Walk.exit rfl (Walk.region' rfl fun K hK => ?_)
      simp only [go_sem, seval, k284, c286, c294]
      refine hK _ ?_
      clear hK K
      exact Walk.weaken _ (by simp [k284, c286, c294] <;> omega) (by simp [k284, c286, c294] <;> omega) (ih280 _ (cont_elim hx))
    refine Walk.skip (Walk.seq (Walk.seq (Walk.region' rfl fun K hK => ?_)))
    simp only [go_sem, seval, k284, c286, c294]
    refine VGdO hx (fun g295 hx => ?_) (fun g295 hx => ?_)
    · simp only [go_sem, seval, k284, c286, c294, g295]
      refine hK _ ?_
      clear hK K
      refine Walk.condO rfl hx (fun c296 hx => ?_) (fun c296 hx => ?_)
      · refine Walk.seq (Walk.region' rfl fun K hK => ?_)
        simp only [go_sem, seval, k284, c286, c294, g295, c296]
        refine hK _ ?_
        clear hK K
        obtain ⟨z297, e298, hx⟩ := exit_elim hx
        rw [hr281 z297 e298] at hx
        obtain rfl := Option.some.inj hx
        exact Walk.ret ⟨by simp [k284, c286, c294, g295, c296], by simp [k284, c286, c294, g295, c296]⟩
      refine Walk.skip (Walk.region' rfl fun K hK => ?_)
      simp only [go_sem, seval, k284, c286, c294, g295, c296]
      refine hK _ ?_
      clear hK K
      refine Walk.inBlock (Walk.region' rfl fun K hK => ?_)
      simp only [go_sem, seval, k284, c286, c294, g295, c296]
      refine hK _ ?_
      clear hK K
      exact Walk.weaken _ (by simp [k284, c286, c294, g295, c296] <;> omega) (by simp [k284, c286, c294, g295, c296] <;> omega) (ih280 _ (cont_elim hx))
    simp only [go_sem, seval, k284, c286, c294, g295]
    refine hK _ ?_
    clear hK K
    refine Walk.condF rfl (Walk.skip (Walk.region' rfl fun K hK => ?_))
    simp only [go_sem, seval, k284, c286, c294, g295]
    refine hK _ ?_
    clear hK K
    refine Walk.inBlock (Walk.region' rfl fun K hK => ?_)
    simp only [go_sem, seval, k284, c286, c294, g295]
    refine hK _ ?_
    clear hK K
    exact Walk.weaken _ (by simp [k284, c286, c294, g295] <;> omega) (by simp [k284, c286, c294, g295] <;> omega) (ih280 _ (cont_elim hx))
  refine Walk.exit rfl ?_
  obtain ⟨z299, e300, hx⟩ := exit_elim hx
  rw [hr281 z299 e300] at hx
  refine Walk.seq (Walk.region' rfl fun K hK => ?_)
  simp only [go_sem, seval, k284, c286]
  refine VGdO hx (fun g301 hx => ?_) (fun g301 hx => ?_)
  · obtain ⟨v102, h302, hx⟩ := bind_elim hx
    simp only [go_sem, seval, k284, c286, g301]
    refine VCl.pure rfl (by simp only [go_sem, seval, k284, c286, g301]; try simp) (law09_awake_ok _ h302) (by simp only [go_sem, seval, k284, c286, g301]; try simp) (by simp only [go_sem, seval, k284, c286, g301]; try simp) (by simp only [go_sem, seval, k284, c286, g301]; try simp) (by simp only [go_sem, seval, k284, c286, g301]; try simp) (by simp only [go_sem, seval, k284, c286, g301]; try simp) (by simp only [go_sem, seval, k284, c286, g301]; try simp) ?_
    simp only [go_sem, seval, k284, c286, g301]
    refine hK _ ?_
    clear hK K
    obtain rfl := Option.some.inj hx
    exact Walk.ret ⟨by simp [k284, c286, g301], by simp [k284, c286, g301]⟩
  simp only [go_sem, seval, k284, c286, g301]
  refine hK _ ?_
  clear hK K
  obtain rfl := Option.some.inj hx
  exact Walk.ret ⟨by simp [k284, c286, g301], by simp [k284, c286, g301]⟩
noncomputable def law09_OptimalityDivides_l1 (v142 : List Node × Int) (v143 : List (List Int) × Int) (v140 : Int × List Row × List Int) (v189 : Int) (v264 : Int) (v265 : Int) : Option ((Int × Int) ⊕ ((Int) ⊕ (Bool))) :=
  bif decide (v265 < (v142.1.length : Int)) then ((rd v142.1 v265).bind fun v270 => bif decide (¬ v270.Kind = 1) then ((rd v143.1 v265).bind fun v271 => (ref08_Subset (v140.2.2.length : Int) v189).bind fun v272 => (law09_complete v271 v272).bind fun v273 => bif v273 then (contO ((IntKind.i64.wrap (v264 + 1), IntKind.i64.wrap (v265 + 1)) : Int × Int)) else (contO ((v264, IntKind.i64.wrap (v265 + 1)) : Int × Int))) else (contO ((v264, IntKind.i64.wrap (v265 + 1)) : Int × Int))) else (exitO (bif decide (¬ v264 = 1) then (exitO (some (false : Bool))) else (contO (IntKind.i64.wrap (v189 + 1) : Int))))
noncomputable def law09_OptimalityDivides_l0 (v140 : Int × List Row × List Int) (v142 : List Node × Int) (v143 : List (List Int) × Int) (v189 : Int) : Option ((Int) ⊕ (Bool)) :=
  chk (0 ≤ (IntKind.u64.wrap ((v140.2.2.length : Int)))) (bif decide (v189 < (IntKind.i64.wrap (1 * 2 ^ (min (IntKind.u64.wrap ((v140.2.2.length : Int))).toNat 64)))) then (iter (fun g : Int × Int => law09_OptimalityDivides_l1 v142 v143 v140 v189 g.1 g.2) (0, 0)) else (exitO ((law09_awake).bind fun v274 => some (v274 : Bool))))
noncomputable def law09_OptimalityDivides (v1 : List Int) : Option (Bool) :=
  (mk_New v1).bind fun v139 => (mk_Tape_Program v139 0 5 0).bind fun v140 => (mk_Tape_Tree v139 v140.1 v140.2.2 v140.2.1 false).bind fun v141 => (mk_Tape_Bent v139 v141.1 v141.2 4).bind fun v142 => (optimality_States v140.2.2 v140.2.1 v142.1).bind fun v143 => bif decide (¬ v143.2 = 0) then ((law09_awake).bind fun v146 => some (v146 : Bool)) else (bif decide (¬ (v143.1.length : Int) = (v142.1.length : Int)) then (some (false : Bool)) else (iter (fun g : Int => law09_OptimalityDivides_l0 v140 v142 v143 g) 0))
theorem law09_OptimalityDivides_ok (v1 : List Int) (r : Bool) (hx : law09_OptimalityDivides v1 = some r) :
    ACalls Try.prog 11 [.d (.sl (List.map iD v1))] [] (.d (.bool r)) [] := by
  refine ACalls.of_sem (n := 72) 0 [2] (fn := Try.f11) Try.func11 rfl rfl (.one rfl) rfl (by simp) (by intro i; simp only [hget]; (repeat' split) <;> simp <;> omega) ?_
  unfold law09_OptimalityDivides at hx
  refine Walk.seq (Walk.region' rfl fun K hK => ?_)
  simp only [go_sem, seval]
  refine hK _ ?_
  clear hK K
  refine Walk.seq (Walk.region' rfl fun K hK => ?_)
  obtain ⟨v139, h510, hx⟩ := bind_elim hx
  have w511 := ((mk_New_ok v1 _ h510).swap 2000 1032)
  simp only [renE, renL, AV.ren, AV.rens, AObj.ren, swp, Option.map_some, reduceIte, Nat.reduceEqDiff] at w511
  simp only [go_sem, seval]
  refine VCl.sub [] [] rfl (by simp only [go_sem, seval, AV.viewXs, AV.viewX, avD]; try simp) (w511) (by simp) (by simp) (by simp) (by simp) (by simp) (by simp) (by simp) (by simp) (by simp) (by simp) ?_
  simp only [go_sem, seval]
  refine hK _ ?_
  clear hK K
  refine Walk.weaken ⟨[(3, .box 1032 0)], [(1032, some (.box [.d (.sl (List.map iD v139)), .d (.int .i64 0)]))]⟩ (by simp <;> omega) (by simp <;> omega) ?_
  refine Walk.seq (Walk.region' rfl fun K hK => ?_)
  obtain ⟨v140, h512, hx⟩ := bind_elim hx
  have w513 := ((((mk_Tape_Program_ok v139 0 5 0 _ h512).swap 0 1032).swap 2001 1033).swap 2002 1034)
  simp only [renE, renL, AV.ren, AV.rens, AObj.ren, swp, Option.map_some, reduceIte, Nat.reduceEqDiff] at w513
  simp only [go_sem, seval]
  refine VCl.sub [(1032, some (.box [.d (.sl (List.map iD v139)), .d (.int .i64 0)]))] [] rfl (by simp only [go_sem, seval, AV.viewXs, AV.viewX, avD]; try simp) (w513) (by simp) (by simp) (by simp) (by simp) (by simp) (by simp) (by simp) (by simp) (by simp) (by simp) ?_
  simp only [go_sem, seval]
  refine hK _ ?_
  clear hK K
  refine Walk.weaken ⟨[(3, .box 1032 0), (4, .box 4 0)], [(4, some (.box [.arr 1033 0 v140.2.2.length, .arr 1034 0 v140.2.1.length])), (1032, some (.box [.d (.sl (List.map iD v139)), .d (.int .i64 v140.1)])), (1033, some (.arr 3 1 (List.map iD v140.2.2))), (1034, some (.arr 64 3 (List.map Row.D v140.2.1)))]⟩ (by simp <;> omega) (by simp <;> omega) ?_
  refine Walk.seq ?_
  refine Walk.weaken ⟨[(3, .box 1032 0), (4, .box 4 0)], [(4, some (.box [.arr 1033 0 v140.2.2.length, .arr 1034 0 v140.2.1.length])), (1032, some (.box [.d (.sl (List.map iD v139)), .d (.int .i64 v140.1)])), (1033, some (.arr 3 1 (List.map iD v140.2.2))), (1034, some (.arr 64 3 (List.map Row.D v140.2.1)))]⟩ (by simp <;> omega) (by simp <;> omega) ?_
  refine Walk.freeze 1033 3 1 (List.map iD v140.2.2) [(3, .box 1032 0), (4, .box 4 0)] [(4, some (.box [.d (.sl (List.map iD v140.2.2)), .arr 1034 0 v140.2.1.length])), (1032, some (.box [.d (.sl (List.map iD v139)), .d (.int .i64 v140.1)])), (1034, some (.arr 64 3 (List.map Row.D v140.2.1)))] (by simp) (by simp) (by simp) ?_
  refine Walk.weaken ⟨[(3, .box 1032 0), (4, .box 4 0)], [(4, some (.box [.d (.sl (List.map iD v140.2.2)), .arr 1034 0 v140.2.1.length])), (1032, some (.box [.d (.sl (List.map iD v139)), .d (.int .i64 v140.1)])), (1034, some (.arr 64 3 (List.map Row.D v140.2.1)))]⟩ (by simp <;> omega) (by simp <;> omega) ?_
  refine Walk.freeze 1034 64 3 (List.map Row.D v140.2.1) [(3, .box 1032 0), (4, .box 4 0)] [(4, some (.box [.d (.sl (List.map iD v140.2.2)), .d (.sl (List.map Row.D v140.2.1))])), (1032, some (.box [.d (.sl (List.map iD v139)), .d (.int .i64 v140.1)]))] (by simp) (by simp) (by simp) ?_
  refine Walk.region' rfl fun K hK => ?_
  obtain ⟨v141, h514, hx⟩ := bind_elim hx
  have w515 := (((mk_Tape_Tree_ok v139 v140.1 v140.2.2 v140.2.1 false _ h514).swap 0 1032).swap 2000 1035)
  simp only [renE, renL, AV.ren, AV.rens, AObj.ren, swp, Option.map_some, reduceIte, Nat.reduceEqDiff] at w515
  simp only [go_sem, seval]
  refine VCl.sub [(1032, some (.box [.d (.sl (List.map iD v139)), .d (.int .i64 v140.1)]))] [] rfl (by simp only [go_sem, seval, AV.viewXs, AV.viewX, avD]; try simp) (w515) (by simp) (by simp) (by simp) (by simp) (by simp) (by simp) (by simp) (by simp) (by simp) (by simp) ?_
  obtain ⟨v142, h516, hx⟩ := bind_elim hx
  have w517 := ((mk_Tape_Bent_ok v139 v141.1 v141.2 4 _ h516).swap 0 1032)
  simp only [renE, renL, AV.ren, AV.rens, AObj.ren, swp, Option.map_some, reduceIte, Nat.reduceEqDiff] at w517
  simp only [go_sem, seval]
  refine VCl.sub [(1032, some (.box [.d (.sl (List.map iD v139)), .d (.int .i64 v141.1)]))] [1035] rfl (by simp only [go_sem, seval, AV.viewXs, AV.viewX, avD]; try simp) (w517) (by simp) (by simp) (by simp) (by simp) (by simp) (by simp) (by simp) (by simp) (by simp) (by simp) ?_
  simp only [go_sem, seval]
  refine hK _ ?_
  clear hK K
  refine Walk.weaken ⟨[(4, .box 4 0), (5, .d (.sl (List.map Node.D v142.1)))], [(4, some (.box [.d (.sl (List.map iD v140.2.2)), .d (.sl (List.map Row.D v140.2.1))]))]⟩ (by simp <;> omega) (by simp <;> omega) ?_
  refine Walk.seq (Walk.region' rfl fun K hK => ?_)
  obtain ⟨v143, h518, hx⟩ := bind_elim hx
  simp only [go_sem, seval]
  refine VCl.pure rfl (by simp only [go_sem, seval]; try simp) (optimality_States_ok v140.2.2 v140.2.1 v142.1 _ h518) (by simp only [go_sem, seval]; try simp) (by simp only [go_sem, seval]; try simp) (by simp only [go_sem, seval]; try simp) (by simp only [go_sem, seval]; try simp) (by simp only [go_sem, seval]; try simp) (by simp only [go_sem, seval]; try simp) ?_
  simp only [go_sem, seval]
  refine hK _ ?_
  clear hK K
  refine Walk.seq (Walk.seq (Walk.region' rfl fun K hK => ?_))
  simp only [go_sem, seval]
  refine hK _ ?_
  clear hK K
  refine Walk.condO rfl hx (fun c523 hx => ?_) (fun c523 hx => ?_)
  · refine Walk.seq (Walk.region' rfl fun K hK => ?_)
    obtain ⟨v146, h524, hx⟩ := bind_elim hx
    simp only [go_sem, seval, c523]
    refine VCl.pure rfl (by simp only [go_sem, seval, c523]; try simp) (law09_awake_ok _ h524) (by simp only [go_sem, seval, c523]; try simp) (by simp only [go_sem, seval, c523]; try simp) (by simp only [go_sem, seval, c523]; try simp) (by simp only [go_sem, seval, c523]; try simp) (by simp only [go_sem, seval, c523]; try simp) (by simp only [go_sem, seval, c523]; try simp) ?_
    simp only [go_sem, seval, c523]
    refine hK _ ?_
    clear hK K
    obtain rfl := Option.some.inj hx
    exact Walk.ret ⟨by simp [c523], by simp [c523]⟩
  refine Walk.skip (Walk.seq (Walk.seq (Walk.region' rfl fun K hK => ?_)))
  simp only [go_sem, seval, c523]
  refine hK _ ?_
  clear hK K
  refine Walk.condO rfl hx (fun c527 hx => ?_) (fun c527 hx => ?_)
  · refine Walk.seq (Walk.region' rfl fun K hK => ?_)
    simp only [go_sem, seval, c523, c527]
    refine hK _ ?_
    clear hK K
    obtain rfl := Option.some.inj hx
    exact Walk.ret ⟨by simp [c523, c527], by simp [c523, c527]⟩
  refine Walk.skip (Walk.seq (Walk.seq (Walk.region' rfl fun K hK => ?_)))
  simp only [go_sem, seval, c523, c527]
  refine hK _ ?_
  clear hK K
  refine Walk.block (Walk.loop ?_)
  refine Walk.weaken ⟨[(4, .box 4 0), (5, .d (.sl (List.map Node.D v142.1))), (6, .d (.sl (List.map (lD iD) v143.1))), (8, .d (.int .i64 0))], [(4, some (.box [.d (.sl (List.map iD v140.2.2)), .d (.sl (List.map Row.D v140.2.1))]))]⟩ (by simp [c523, c527] <;> omega) (by simp [c523, c527] <;> omega) ?_
  refine Walk.iter (σ := Int) (fun g => ⟨[(4, .box 4 0), (5, .d (.sl (List.map Node.D v142.1))), (6, .d (.sl (List.map (lD iD) v143.1))), (8, .d (.int .i64 g))], [(4, some (.box [.d (.sl (List.map iD v140.2.2)), .d (.sl (List.map Row.D v140.2.1))]))]⟩) (fun g : Int => law09_OptimalityDivides_l0 v140 v142 v143 g) _ (fun v189 y1022 hx ih852 hr853 => ?_) 0 hx
  unfold law09_OptimalityDivides_l0 at hx
  try dsimp only at hx ⊢
  refine Walk.seq (Walk.seq (Walk.region' rfl fun K hK => ?_))
  obtain ⟨k856, hx⟩ := chk_elim hx
  simp only [go_sem, seval, c523, c527, k856]
  repeat refine And.intro (by first | omega | (simp; done) | (simp; omega)) ?_
  refine hK _ ?_
  clear hK K
  refine Walk.condO rfl hx (fun c858 hx => ?_) (fun c858 hx => ?_)
  · refine Walk.skip (Walk.seq (Walk.block (Walk.seq (Walk.region' rfl fun K hK => ?_))))
    simp only [go_sem, seval, c523, c527, k856, c858]
    refine hK _ ?_
    clear hK K
    refine Walk.seq (Walk.seq (Walk.region' rfl fun K hK => ?_))
    simp only [go_sem, seval, c523, c527, k856, c858]
    refine hK _ ?_
    clear hK K
    refine Walk.block (Walk.loop ?_)
    refine Walk.weaken ⟨[(4, .box 4 0), (5, .d (.sl (List.map Node.D v142.1))), (6, .d (.sl (List.map (lD iD) v143.1))), (8, .d (.int .i64 v189)), (9, .d (.int .i64 0)), (10, .d (.int .i64 0))], [(4, some (.box [.d (.sl (List.map iD v140.2.2)), .d (.sl (List.map Row.D v140.2.1))]))]⟩ (by simp [c523, c527, k856, c858] <;> omega) (by simp [c523, c527, k856, c858] <;> omega) ?_
    refine Walk.iter (σ := Int × Int) (fun g => ⟨[(4, .box 4 0), (5, .d (.sl (List.map Node.D v142.1))), (6, .d (.sl (List.map (lD iD) v143.1))), (8, .d (.int .i64 v189)), (9, .d (.int .i64 g.1)), (10, .d (.int .i64 g.2))], [(4, some (.box [.d (.sl (List.map iD v140.2.2)), .d (.sl (List.map Row.D v140.2.1))]))]⟩) (fun g : Int × Int => law09_OptimalityDivides_l1 v142 v143 v140 v189 g.1 g.2) _ (fun g y1018 hx ih995 hr996 => ?_) (0, 0) hx
    obtain ⟨v264, v265⟩ := g
    unfold law09_OptimalityDivides_l1 at hx
    try dsimp only at hx ⊢
    refine Walk.seq (Walk.seq (Walk.region' rfl fun K hK => ?_))
    simp only [go_sem, seval, c523, c527, k856, c858]
    refine hK _ ?_
    clear hK K
    refine Walk.condO rfl hx (fun c999 hx => ?_) (fun c999 hx => ?_)
    · refine Walk.skip (Walk.seq (Walk.block (Walk.seq (Walk.drawn' rfl mixed fun K hK => ?_))))
      obtain ⟨v270, r1000, a1001, b1002, c1003, hx⟩ := rd_elim hx
      simp only [go_sem, seval, c523, c527, k856, c858, c999, a1001, b1002, c1003]
      repeat refine And.intro (by first | omega | (simp; done) | (simp; omega)) ?_
      refine VGdO hx (fun g1004 hx => ?_) (fun g1004 hx => ?_)
      · obtain ⟨v271, r1005, a1006, b1007, c1008, hx⟩ := rd_elim hx
        obtain ⟨v272, h1009, hx⟩ := bind_elim hx
        have w1010 := ((ref08_Subset_ok (v140.2.2.length : Int) v189 _ h1009).swap 2000 1062)
        simp only [renE, renL, AV.ren, AV.rens, AObj.ren, swp, Option.map_some, reduceIte, Nat.reduceEqDiff] at w1010
        simp only [go_sem, seval, c523, c527, k856, c858, c999, a1001, b1002, c1003, g1004, a1006, b1007, c1008]
        repeat refine And.intro (by first | omega | (simp; done) | (simp; omega)) ?_
        refine VCl.pure rfl (by simp only [go_sem, seval, c523, c527, k856, c858, c999, a1001, b1002, c1003, g1004, a1006, b1007, c1008]; try simp) (w1010) (by simp only [go_sem, seval, c523, c527, k856, c858, c999, a1001, b1002, c1003, g1004, a1006, b1007, c1008]; try simp) (by simp only [go_sem, seval, c523, c527, k856, c858, c999, a1001, b1002, c1003, g1004, a1006, b1007, c1008]; try simp) (by simp only [go_sem, seval, c523, c527, k856, c858, c999, a1001, b1002, c1003, g1004, a1006, b1007, c1008]; try simp) (by simp only [go_sem, seval, c523, c527, k856, c858, c999, a1001, b1002, c1003, g1004, a1006, b1007, c1008]; try simp) (by simp only [go_sem, seval, c523, c527, k856, c858, c999, a1001, b1002, c1003, g1004, a1006, b1007, c1008]; try simp) (by simp only [go_sem, seval, c523, c527, k856, c858, c999, a1001, b1002, c1003, g1004, a1006, b1007, c1008]; try simp) ?_
        obtain ⟨v273, h1011, hx⟩ := bind_elim hx
        simp only [go_sem, seval, c523, c527, k856, c858, c999, a1001, b1002, c1003, g1004, a1006, b1007, c1008]
        refine VCl.lent rfl (by simp only [go_sem, seval, c523, c527, k856, c858, c999, a1001, b1002, c1003, g1004, a1006, b1007, c1008]; try simp) (law09_complete_ok v271 v272 _ h1011) (by simp [c523, c527, k856, c858, c999, a1001, b1002, c1003, g1004, a1006, b1007, c1008]) (by simp [c523, c527, k856, c858, c999, a1001, b1002, c1003, g1004, a1006, b1007, c1008]) (by simp [c523, c527, k856, c858, c999, a1001, b1002, c1003, g1004, a1006, b1007, c1008]) (by simp [c523, c527, k856, c858, c999, a1001, b1002, c1003, g1004, a1006, b1007, c1008]) (by simp [c523, c527, k856, c858, c999, a1001, b1002, c1003, g1004, a1006, b1007, c1008]) (by simp [c523, c527, k856, c858, c999, a1001, b1002, c1003, g1004, a1006, b1007, c1008]) (by simp [c523, c527, k856, c858, c999, a1001, b1002, c1003, g1004, a1006, b1007, c1008]) ?_
        simp only [go_sem, seval, c523, c527, k856, c858, c999, a1001, b1002, c1003, g1004, a1006, b1007, c1008]
        refine hK _ _ (by kernel_rfl) (by simp [c523, c527, k856, c858, c999, a1001, b1002, c1003, g1004, a1006, b1007, c1008]) ?_
        clear hK K
        refine Walk.weaken ⟨[(4, .box 4 0), (5, .d (.sl (List.map Node.D v142.1))), (6, .d (.sl (List.map (lD iD) v143.1))), (8, .d (.int .i64 v189)), (9, .d (.int .i64 v264)), (10, .d (.int .i64 v265)), (66, .d (.bool v273))], [(4, some (.box [.d (.sl (List.map iD v140.2.2)), .d (.sl (List.map Row.D v140.2.1))]))]⟩ (by simp [c523, c527, k856, c858, c999, a1001, b1002, c1003, g1004, a1006, b1007, c1008] <;> omega) (by simp [c523, c527, k856, c858, c999, a1001, b1002, c1003, g1004, a1006, b1007, c1008] <;> omega) ?_
        refine Walk.condO rfl hx (fun c1012 hx => ?_) (fun c1012 hx => ?_)
        · refine Walk.region' rfl fun K hK => ?_
          simp only [go_sem, seval, c523, c527, k856, c858, c999, a1001, b1002, c1003, g1004, a1006, b1007, c1008, c1012]
          refine hK _ ?_
          clear hK K
          refine Walk.inBlock (Walk.region' rfl fun K hK => ?_)
          simp only [go_sem, seval, c523, c527, k856, c858, c999, a1001, b1002, c1003, g1004, a1006, b1007, c1008, c1012]
          refine hK _ ?_
          clear hK K
          exact Walk.weaken _ (by simp [c523, c527, k856, c858, c999, a1001, b1002, c1003, g1004, a1006, b1007, c1008, c1012] <;> omega) (by simp [c523, c527, k856, c858, c999, a1001, b1002, c1003, g1004, a1006, b1007, c1008, c1012] <;> omega) (ih995 _ (cont_elim hx))
        refine Walk.skip (Walk.inBlock (Walk.region' rfl fun K hK => ?_))
        simp only [go_sem, seval, c523, c527, k856, c858, c999, a1001, b1002, c1003, g1004, a1006, b1007, c1008, c1012]
        refine hK _ ?_
        clear hK K
        exact Walk.weaken _ (by simp [c523, c527, k856, c858, c999, a1001, b1002, c1003, g1004, a1006, b1007, c1008, c1012] <;> omega) (by simp [c523, c527, k856, c858, c999, a1001, b1002, c1003, g1004, a1006, b1007, c1008, c1012] <;> omega) (ih995 _ (cont_elim hx))
      simp only [go_sem, seval, c523, c527, k856, c858, c999, a1001, b1002, c1003, g1004]
      refine hK _ _ (by kernel_rfl) (by simp [c523, c527, k856, c858, c999, a1001, b1002, c1003, g1004]) ?_
      clear hK K
      refine Walk.condF rfl (Walk.skip (Walk.inBlock (Walk.region' rfl fun K hK => ?_)))
      simp only [go_sem, seval, c523, c527, k856, c858, c999, a1001, b1002, c1003, g1004]
      refine hK _ ?_
      clear hK K
      exact Walk.weaken _ (by simp [c523, c527, k856, c858, c999, a1001, b1002, c1003, g1004] <;> omega) (by simp [c523, c527, k856, c858, c999, a1001, b1002, c1003, g1004] <;> omega) (ih995 _ (cont_elim hx))
    refine Walk.exit rfl ?_
    obtain ⟨z1013, e1014, hx⟩ := exit_elim hx
    rw [hr996 z1013 e1014] at hx
    refine Walk.seq (Walk.region' rfl fun K hK => ?_)
    simp only [go_sem, seval, c523, c527, k856, c858, c999]
    refine hK _ ?_
    clear hK K
    refine Walk.condO rfl hx (fun c1015 hx => ?_) (fun c1015 hx => ?_)
    · refine Walk.seq (Walk.region' rfl fun K hK => ?_)
      simp only [go_sem, seval, c523, c527, k856, c858, c999, c1015]
      refine hK _ ?_
      clear hK K
      obtain ⟨z1016, e1017, hx⟩ := exit_elim hx
      rw [hr853 z1016 e1017] at hx
      obtain rfl := Option.some.inj hx
      exact Walk.ret ⟨by simp [c523, c527, k856, c858, c999, c1015], by simp [c523, c527, k856, c858, c999, c1015]⟩
    refine Walk.skip (Walk.inBlock (Walk.region' rfl fun K hK => ?_))
    simp only [go_sem, seval, c523, c527, k856, c858, c999, c1015]
    refine hK _ ?_
    clear hK K
    exact Walk.weaken _ (by simp [c523, c527, k856, c858, c999, c1015] <;> omega) (by simp [c523, c527, k856, c858, c999, c1015] <;> omega) (ih852 _ (cont_elim hx))
  refine Walk.exit rfl ?_
  obtain ⟨z1019, e1020, hx⟩ := exit_elim hx
  rw [hr853 z1019 e1020] at hx
  refine Walk.seq (Walk.region' rfl fun K hK => ?_)
  obtain ⟨v274, h1021, hx⟩ := bind_elim hx
  simp only [go_sem, seval, c523, c527, k856, c858]
  refine VCl.pure rfl (by simp only [go_sem, seval, c523, c527, k856, c858]; try simp) (law09_awake_ok _ h1021) (by simp only [go_sem, seval, c523, c527, k856, c858]; try simp) (by simp only [go_sem, seval, c523, c527, k856, c858]; try simp) (by simp only [go_sem, seval, c523, c527, k856, c858]; try simp) (by simp only [go_sem, seval, c523, c527, k856, c858]; try simp) (by simp only [go_sem, seval, c523, c527, k856, c858]; try simp) (by simp only [go_sem, seval, c523, c527, k856, c858]; try simp) ?_
  simp only [go_sem, seval, c523, c527, k856, c858]
  refine hK _ ?_
  clear hK K
  obtain rfl := Option.some.inj hx
  exact Walk.ret ⟨by simp [c523, c527, k856, c858], by simp [c523, c527, k856, c858]⟩
end Go.AX

