import Derived.Test.YtebcedhhcpibpaaE2
set_option linter.unusedVariables false
set_option linter.unusedSimpArgs false
set_option maxRecDepth 20000
set_option maxHeartbeats 4000000
namespace Go.AX
open Go.Proofs
attribute [local simp] spl_len take_snoc take_cons_drop cons_rep cons_tail iA bA take_set_len idsL_rep idsL_iA idsL_bA idsL_sA idsL_set_mem idsL_sub sA_def List.map_replicate frVs_setS frVs_self frV_arr take_map_len subE subH eget hget upE upV upH upO_refl upO_box upVs freshE freshH freshO AV.ids AV.idsL ids_box ids_arr ids_pre idsL_room frE frV_refl frV_arr frH frO_refl frO_box frVs newOk evalA AV.viewXs AV.viewX AV.viewXP AV.viewXPs AV.viewPs AV.viewP AV.flat AV.flatL D.flat arrsOnly flatObjs newNames subOf closedIn allSome dstOk newOrOld avD avDp zv_i64 zv_u8 zv_bool zv_nils zv_nilp zv_str retAV aLoad cut TI.isAgg nlE nlH nlO_refl nlO_box nlVs nlV_refl nlV_nil iD uD bD tD lD List.map_set ti1 ti2 ti3 ti4 ti5 ti6 ti7 ti8 ti9 ti10 ti11 ti12 ti13 ti14 ti15 ti16 ti17 ti18 ti19 ti21 ti22 ti23 ti24 ti25 ti26 ti27 ti28 ti29 ti30 ti32 ti33 ti34 ti35 ti36 ti37 ti38 ti40 ti41 ti42 ti43 ti44 ti45 ti46 ti47 ti48 ti49 ti50 ti51 ti52 ti54 ti55 ti56 ti57 ti58 ti59 ti61 ti62 ti63 ti64 ti65 ti66 ti67 ti68 ti69 ti70 ti72 ti73 ti74 ti75 ti76 ti77 ti78 ti79 ti80 ti81 ti82 ti83 ti84 ti85 ti86 ti87 ti89 ti91 ti92 ti93 ti94 ti95 ti96 ti97 ti98 ti99 ti100 ti101 ti103 ti105 ti106 ti107 ti108 ti109 ti110 ti111 ti112 ti113 ti114 ti115 ti117 ti118 ti120 ti121 ti122 ti123 ti124 ti125 ti126 ti127 ti128 ti129 ti130 ti131 ti132 ti133 ti134 ti135 ti136 ti137 ti138 ti139 ti140 Row.D Node.D Part.D TItem.D Ref.D
attribute [local go_sem] V1_none V1_some V_nil V_move V_assign V_pick V_bin V_un V_extract V_makeFunc V_convert V_nilCheck V_fieldAddr V_field V_load V_store V_indexAddr V_index V_slice V_slice0 V_alloc V_box V_build V_buildSlice V_makeSlice V_len V_min V_max V_append V_copy V_call V_guard VGs_some VG_tt VG_ff VG_tf VG_ft VG_u gslot ok fail po so aNew dstOk freshU addLog_none' addLog_some' St.step putL evalA eget hget argE freshE freshO freshH AV.ids AV.idsL AV.ok1 AV.cells ids_box ids_arr liveBox liveArr isArr isObj isBoxB aPick isNilC aNilEq aBin aUn aExtract aMakeFunc aConvert aNilCheck aFieldAddr aField cut aLen aIndexAddr aMin aMax aIndex bnd isInt aSlice aSlice0 aLoad aAlloc aBox aStore splice aMake aMakeBox aCopy cellsOf cellsOfP updIds newIds zv_i64 zv_u8 zv_bool zv_nils zv_nilp cond_bool cond_int TI.isAgg TK.isSl TK.el okL avDps avDp avD List.map_cons List.map_nil List.append_nil List.nil_append List.cons_append List.length_cons List.length_nil List.take_succ_cons List.take_zero List.drop_succ_cons List.drop_zero List.take_nil List.drop_nil List.headD_cons List.getD_cons_zero List.getD_cons_succ List.mem_cons List.not_mem_nil List.getElem?_cons_zero List.getElem?_cons_succ List.toList_toArray Option.getD_some Option.getD_none Option.bind_some Option.bind_none Option.map_some Option.map_none Option.getD Option.toList Nat.zero_add Nat.add_zero Nat.zero_le Nat.le_refl if_true if_false ite_self true_and and_true false_and and_false true_or or_true false_or or_false not_true_eq_false not_false_eq_true ne_eq cond_true cond_false Bool.true_eq_false Bool.false_eq_true forall_const decide_true decide_false implies_true true_implies and_self or_self Nat.succ_ne_zero Int.toNat_natCast Int.natCast_nonneg List.length_map decide_eq_true_eq AV.views AV.view AV.viewPs AV.viewP arrsOnly newNames List.length_append List.append_assoc Bool.not_true Bool.not_false AV.ok2 aBuild fillR fillP aBuildSlice dense elP aAppend esOf esOfP List.forall_mem_cons forall_eq_or_imp forall_eq zD zDp map_take' map_drop' iD uD bD tD lD iD_len uD_len bD_len tD_len lD_len LB Int.cast_ofNat_Int Int.natCast_zero Int.natCast_one head_len all_len List.head?_cons List.head?_nil Bool.not_not eq_self List.take_length zv_str aConv byteOf isByte map_bcell bytes_all str_map cellsEq cellsP AV.kd Bool.and_true Bool.true_and Bool.and_false Bool.false_and spl_map spl_len mkbox_i mkbox_b flat_iD dataL_iA dataL_bA zv_u64 flat_iD' flat_len dataL_tA dataL_ttA spl_mt spl_mtt mkbox_s splice_one take_cons_drop cons_rep cons_tail hd_set hd_set0 List.length_replicate iA bA sA_def List.set_set List.length_set idsL_iA idsL_bA idsL_sA idsL_setE idsL_rep List.append_eq Nat.mul_one ids_pre idsL_room appBox_full appBox_room pre_iA one_iD List.flatten_cons List.flatten_nil ti1 ti2 ti3 ti4 ti5 ti6 ti7 ti8 ti9 ti10 ti11 ti12 ti13 ti14 ti15 ti16 ti17 ti18 ti19 ti21 ti22 ti23 ti24 ti25 ti26 ti27 ti28 ti29 ti30 ti32 ti33 ti34 ti35 ti36 ti37 ti38 ti40 ti41 ti42 ti43 ti44 ti45 ti46 ti47 ti48 ti49 ti50 ti51 ti52 ti54 ti55 ti56 ti57 ti58 ti59 ti61 ti62 ti63 ti64 ti65 ti66 ti67 ti68 ti69 ti70 ti72 ti73 ti74 ti75 ti76 ti77 ti78 ti79 ti80 ti81 ti82 ti83 ti84 ti85 ti86 ti87 ti89 ti91 ti92 ti93 ti94 ti95 ti96 ti97 ti98 ti99 ti100 ti101 ti103 ti105 ti106 ti107 ti108 ti109 ti110 ti111 ti112 ti113 ti114 ti115 ti117 ti118 ti120 ti121 ti122 ti123 ti124 ti125 ti126 ti127 ti128 ti129 ti130 ti131 ti132 ti133 ti134 ti135 ti136 ti137 ti138 ti139 ti140 Row.D Node.D Part.D TItem.D Ref.D Row.D_len Node.D_len Part.D_len TItem.D_len Ref.D_len zs_ zs_48_49_50_51_52_53_54_55_56_57_48_49_50_51_52_53_54_55_56_57_48_49_50_51_52_53_54_55_56_57_48_49_50_51_52_53_54_55_56_57_120 zs_113 zs_116_97_98_9 eqf74_00
noncomputable def assembly_All_1_2_l3 (v2 : List Int) (v3 : List Row) (v109 : Int) (v110 : List (List Int)) (v111 : List Int) (v1 : List Int) (v147 : Int) (v148 : List Int) : Option ((Int × List Int) ⊕ ((Int × List (List Int) × List Int) ⊕ (List (List Int) × List Int))) :=
  bif decide (v147 < (v148.length : Int)) then ((rd v148 v147).bind fun v150 => contO ((IntKind.i64.wrap (v147 + 1), (v148.set (v147).toNat (-1))) : Int × List Int)) else (exitO ((blueprint_Dead v2 v3 v148).bind fun v152 => bif decide (v152 ≥ 0) then (contO ((IntKind.i64.wrap (v109 + 1), v110, v111) : Int × List (List Int) × List Int)) else ((rd v111 v109).bind fun v153 => chk ((v1.length + 1) * 8 ≤ 140737488355328) ((assembly_All_1_3 (v1 ++ [v109]) v2 v3 (v111.set (v109).toNat 1) v110).bind fun v154 => (rd v154.2 v109).bind fun v155 => contO ((IntKind.i64.wrap (v109 + 1), v154.1, (v154.2.set (v109).toNat 0)) : Int × List (List Int) × List Int)))))
noncomputable def assembly_All_1_2_l2 (v2 : List Int) (v3 : List Row) (v1 : List Int) (v109 : Int) (v110 : List (List Int)) (v111 : List Int) : Option ((Int × List (List Int) × List Int) ⊕ (List (List Int) × List Int)) :=
  bif decide (v109 < (v111.length : Int)) then ((slices_Clone_int v111).bind fun v134 => (rd v134 v109).bind fun v135 => iter (fun g : Int × List Int => assembly_All_1_2_l3 v2 v3 v109 v110 v111 v1 g.1 g.2) (IntKind.i64.wrap (v109 + 1), (v134.set (v109).toNat 1))) else (exitO (some ((v110, v111) : List (List Int) × List Int)))
noncomputable def assembly_All_1_2_j1 (v2 : List Int) (v3 : List Row) (v1 : List Int) (v84 : List (List Int)) (v4 : List Int) (v86 : Int) : Option (List (List Int) × List Int) :=
  iter (fun g : Int × List (List Int) × List Int => assembly_All_1_2_l2 v2 v3 v1 g.1 g.2.1 g.2.2) (v86, v84, v4)
noncomputable def assembly_All_1_2_j0 (v1 : List Int) (v2 : List Int) (v3 : List Row) (v4 : List Int) (v84 : List (List Int)) : Option (List (List Int) × List Int) :=
  bif decide ((v1.length : Int) > 0) then ((rd v1 (IntKind.i64.wrap ((v1.length : Int) - 1))).bind fun v156 => assembly_All_1_2_j1 v2 v3 v1 v84 v4 (IntKind.i64.wrap (v156 + 1))) else (assembly_All_1_2_j1 v2 v3 v1 v84 v4 0)
noncomputable def assembly_All_1_2 (v1 : List Int) (v2 : List Int) (v3 : List Row) (v4 : List Int) (v5 : List (List Int)) : Option (List (List Int) × List Int) :=
  chk (0 < v1.length) ((blueprint_Dead v2 v3 v4).bind fun v157 => bif decide (v157 < 0) then ((slices_Clone_int v1).bind fun v158 => chk ((v5.length + 1) * 24 ≤ 140737488355328) (assembly_All_1_2_j0 v1 v2 v3 v4 (v5 ++ [v158]))) else (assembly_All_1_2_j0 v1 v2 v3 v4 v5))
theorem assembly_All_1_2_ok (v1 : List Int) (v2 : List Int) (v3 : List Row) (v4 : List Int) (v5 : List (List Int)) (r : List (List Int) × List Int) (hx : assembly_All_1_2 v1 v2 v3 v4 v5 = some r) :
    ACalls Try.prog 41 [.arr 0 0 v1.length, .box 1 0, .box 2 0, .box 4 0, .box 6 0] [(0, some (.arr 3 1 (List.map iD v1))), (1, some (.box [.d (.sl (List.map iD v2)), .d (.sl (List.map Row.D v3))])), (2, some (.box [.arr 3 0 v4.length])), (3, some (.arr 3 1 (List.map iD v4))), (4, some (.box [.arr 5 0 v5.length])), (5, some (.arr 22 1 (List.map (lD iD) v5))), (6, some (.box [.fn 41 [.box 1 0, .box 2 0, .box 4 0, .box 6 0]]))] (.tup []) [(1, some (.box [.d (.sl (List.map iD v2)), .d (.sl (List.map Row.D v3))])), (2, some (.box [.arr 3 0 r.2.length])), (3, some (.arr 3 1 (List.map iD r.2))), (4, some (.box [.arr 5 0 r.1.length])), (5, some (.arr 22 1 (List.map (lD iD) r.1))), (6, some (.box [.fn 41 [.box 1 0, .box 2 0, .box 4 0, .box 6 0]]))] := by
  refine ACalls.of_sem (n := 69) 7 [] (fn := Try.f41) Try.func41 rfl rfl (.zero rfl) rfl (by simp) (by intro i; simp only [hget]; (repeat' split) <;> simp <;> omega) ?_
  unfold assembly_All_1_2 at hx
  obtain ⟨k0, hx⟩ := chk_elim hx
  refine Walk.weaken ⟨[(0, .arr 0 0 v1.length), (1, .box 1 0), (2, .box 2 0), (3, .box 4 0), (4, .box 6 0)], [(0, some (.arr 3 1 (List.map iD v1))), (1, some (.box [.d (.sl (List.map iD v2)), .d (.sl (List.map Row.D v3))])), (2, some (.box [.arr 3 0 v4.length])), (3, some (.arr 3 1 (List.map iD v4))), (4, some (.box [.arr 5 0 v5.length])), (5, some (.arr 22 1 (List.map (lD iD) v5))), (6, some (.box [.fn 41 [.box 1 0, .box 2 0, .box 4 0, .box 6 0]]))]⟩ (by simp [argE]) (by simp) ?_
  refine Walk.arrPre 0 1001 3 (List.map (D.int .i64) v1) [(0, .arr 1001 0 v1.length), (1, .box 1 0), (2, .box 2 0), (3, .box 4 0), (4, .box 6 0)] [(1, some (.box [.d (.sl (List.map iD v2)), .d (.sl (List.map Row.D v3))])), (2, some (.box [.arr 3 0 v4.length])), (3, some (.arr 3 1 (List.map iD v4))), (4, some (.box [.arr 5 0 v5.length])), (5, some (.arr 22 1 (List.map (lD iD) v5))), (6, some (.box [.fn 41 [.box 1 0, .box 2 0, .box 4 0, .box 6 0]])), (1001, some (.pre (List.map (D.int .i64) v1)))] (by simp [one_iD]) (by simpa using k0) (by omega) (by omega) (by simp) (by simp) (by simp [apE, apV]) (by simp [baH]) ?_
  refine Walk.fix ⟨[], [(1, some (.box [.d (.sl (List.map iD v2)), .d (.sl (List.map Row.D v3))])), (2, some (.box [.arr 3 0 r.2.length])), (3, some (.arr 3 1 (List.map iD r.2))), (4, some (.box [.arr 5 0 r.1.length])), (5, some (.arr 22 1 (List.map (lD iD) r.1))), (6, some (.box [.fn 41 [.box 1 0, .box 2 0, .box 4 0, .box 6 0]]))]⟩ ⟨by simp, by simp⟩ ?_
  refine Walk.scope (Walk.seq (Walk.join (G := List (List Int)) (fun g => ⟨[(0, .arr 1001 0 v1.length), (1, .box 1 0), (2, .box 2 0), (4, .box 6 0)], [(1, some (.box [.d (.sl (List.map iD v2)), .d (.sl (List.map Row.D v3))])), (2, some (.box [.arr 3 0 v4.length])), (3, some (.arr 3 1 (List.map iD v4))), (4, some (.box [.arr 5 0 g.length])), (5, some (.arr 22 1 (List.map (lD iD) g))), (6, some (.box [.fn 41 [.box 1 0, .box 2 0, .box 4 0, .box 6 0]])), (1001, some (.pre (List.map (D.int .i64) v1)))]⟩) (fun g => assembly_All_1_2_j0 v1 v2 v3 v4 g) hx (fun v84 hx => ?_) (fun fin293 => ?_)))
  · unfold assembly_All_1_2_j0 at hx
    try dsimp only at hx ⊢
    refine Walk.seq (Walk.region' rfl fun K hK => ?_)
    simp only [go_sem, seval]
    refine hK _ ?_
    clear hK K
    refine Walk.seq (Walk.join (G := Int) (fun g => ⟨[(0, .arr 1001 0 v1.length), (1, .box 1 0), (2, .box 2 0), (4, .box 6 0), (6, .d (.int .i64 g))], [(1, some (.box [.d (.sl (List.map iD v2)), .d (.sl (List.map Row.D v3))])), (2, some (.box [.arr 3 0 v4.length])), (3, some (.arr 3 1 (List.map iD v4))), (4, some (.box [.arr 5 0 v84.length])), (5, some (.arr 22 1 (List.map (lD iD) v84))), (6, some (.box [.fn 41 [.box 1 0, .box 2 0, .box 4 0, .box 6 0]])), (1001, some (.pre (List.map (D.int .i64) v1)))]⟩) (fun g => assembly_All_1_2_j1 v2 v3 v1 v84 v4 g) hx (fun v86 hx => ?_) (fun fin302 => ?_))
    · unfold assembly_All_1_2_j1 at hx
      try dsimp only at hx ⊢
      refine Walk.seq (Walk.label (Walk.seq (Walk.region' rfl fun K hK => ?_)))
      simp only [go_sem, seval]
      refine hK _ ?_
      clear hK K
      refine Walk.block (Walk.loop ?_)
      refine Walk.weaken ⟨[(0, .arr 1001 0 v1.length), (1, .box 1 0), (2, .box 2 0), (4, .box 6 0), (8, .d (.int .i64 v86))], [(1, some (.box [.d (.sl (List.map iD v2)), .d (.sl (List.map Row.D v3))])), (2, some (.box [.arr 3 0 v4.length])), (3, some (.arr 3 1 (List.map iD v4))), (4, some (.box [.arr 5 0 v84.length])), (5, some (.arr 22 1 (List.map (lD iD) v84))), (6, some (.box [.fn 41 [.box 1 0, .box 2 0, .box 4 0, .box 6 0]])), (1001, some (.pre (List.map (D.int .i64) v1)))]⟩ (by simp <;> omega) (by simp <;> omega) ?_
      refine Walk.iter (σ := Int × List (List Int) × List Int) (fun g => ⟨[(0, .arr 1001 0 v1.length), (1, .box 1 0), (2, .box 2 0), (4, .box 6 0), (8, .d (.int .i64 g.1))], [(1, some (.box [.d (.sl (List.map iD v2)), .d (.sl (List.map Row.D v3))])), (2, some (.box [.arr 3 0 g.2.2.length])), (3, some (.arr 3 1 (List.map iD g.2.2))), (4, some (.box [.arr 5 0 g.2.1.length])), (5, some (.arr 22 1 (List.map (lD iD) g.2.1))), (6, some (.box [.fn 41 [.box 1 0, .box 2 0, .box 4 0, .box 6 0]])), (1001, some (.pre (List.map (D.int .i64) v1)))]⟩) (fun g : Int × List (List Int) × List Int => assembly_All_1_2_l2 v2 v3 v1 g.1 g.2.1 g.2.2) _ (fun g y578 hx ih483 hr484 => ?_) (v86, v84, v4) hx
      obtain ⟨v109, v110, v111⟩ := g
      unfold assembly_All_1_2_l2 at hx
      try dsimp only at hx ⊢
      refine Walk.seq (Walk.seq (Walk.region' rfl fun K hK => ?_))
      simp only [go_sem, seval]
      refine hK _ ?_
      clear hK K
      refine Walk.condO rfl hx (fun c487 hx => ?_) (fun c487 hx => ?_)
      · refine Walk.skip (Walk.seq (Walk.block (Walk.seq (Walk.region' rfl fun K hK => ?_))))
        obtain ⟨v134, h488, hx⟩ := bind_elim hx
        have w489 := ((slices_Clone_int_ok v111 _ h488).swap 2000 1009)
        simp only [renE, renL, AV.ren, AV.rens, AObj.ren, swp, Option.map_some, reduceIte, Nat.reduceEqDiff] at w489
        simp only [go_sem, seval, c487]
        refine VCl.lent rfl (by simp only [go_sem, seval, c487]; try simp) (w489) (by simp [c487]) (by simp [c487]) (by simp [c487]) (by simp [c487]) (by simp [c487]) (by simp [c487]) (by simp [c487]) ?_
        simp only [go_sem, seval, c487]
        refine hK _ ?_
        clear hK K
        refine Walk.weaken ⟨[(0, .arr 1001 0 v1.length), (1, .box 1 0), (2, .box 2 0), (4, .box 6 0), (8, .d (.int .i64 v109)), (9, .arr 1009 0 v134.length)], [(1, some (.box [.d (.sl (List.map iD v2)), .d (.sl (List.map Row.D v3))])), (2, some (.box [.arr 3 0 v111.length])), (3, some (.arr 3 1 (List.map iD v111))), (4, some (.box [.arr 5 0 v110.length])), (5, some (.arr 22 1 (List.map (lD iD) v110))), (6, some (.box [.fn 41 [.box 1 0, .box 2 0, .box 4 0, .box 6 0]])), (1001, some (.pre (List.map (D.int .i64) v1))), (1009, some (.arr 3 1 (List.map iD v134)))]⟩ (by simp [c487] <;> omega) (by simp [c487] <;> omega) ?_
        refine Walk.seq (Walk.region' rfl fun K hK => ?_)
        obtain ⟨v135, r490, a491, b492, c493, hx⟩ := rd_elim hx
        simp only [go_sem, seval, c487, a491, b492, c493]
        repeat refine And.intro (by first | omega | (simp; done) | (simp; omega)) ?_
        refine hK _ ?_
        clear hK K
        refine Walk.weaken ⟨[(0, .arr 1001 0 v1.length), (1, .box 1 0), (2, .box 2 0), (4, .box 6 0), (8, .d (.int .i64 v109)), (9, .arr 1009 0 (((v134.set (v109).toNat 1)).length))], [(1, some (.box [.d (.sl (List.map iD v2)), .d (.sl (List.map Row.D v3))])), (2, some (.box [.arr 3 0 v111.length])), (3, some (.arr 3 1 (List.map iD v111))), (4, some (.box [.arr 5 0 v110.length])), (5, some (.arr 22 1 (List.map (lD iD) v110))), (6, some (.box [.fn 41 [.box 1 0, .box 2 0, .box 4 0, .box 6 0]])), (1001, some (.pre (List.map (D.int .i64) v1))), (1009, some (.arr 3 1 (List.map iD ((v134.set (v109).toNat 1)))))]⟩ (by simp [c487, a491, b492, c493] <;> omega) (by simp [c487, a491, b492, c493] <;> omega) ?_
        refine Walk.seq (Walk.seq (Walk.region' rfl fun K hK => ?_))
        simp only [go_sem, seval, c487, a491, b492, c493]
        refine hK _ ?_
        clear hK K
        refine Walk.block (Walk.loop ?_)
        refine Walk.weaken ⟨[(0, .arr 1001 0 v1.length), (1, .box 1 0), (2, .box 2 0), (4, .box 6 0), (8, .d (.int .i64 v109)), (9, .arr 1009 0 (((v134.set (v109).toNat 1)).length)), (10, .d (.int .i64 ((IntKind.i64.wrap (v109 + 1)))))], [(1, some (.box [.d (.sl (List.map iD v2)), .d (.sl (List.map Row.D v3))])), (2, some (.box [.arr 3 0 v111.length])), (3, some (.arr 3 1 (List.map iD v111))), (4, some (.box [.arr 5 0 v110.length])), (5, some (.arr 22 1 (List.map (lD iD) v110))), (6, some (.box [.fn 41 [.box 1 0, .box 2 0, .box 4 0, .box 6 0]])), (1001, some (.pre (List.map (D.int .i64) v1))), (1009, some (.arr 3 1 (List.map iD ((v134.set (v109).toNat 1)))))]⟩ (by simp [c487, a491, b492, c493] <;> omega) (by simp [c487, a491, b492, c493] <;> omega) ?_
        refine Walk.iter (σ := Int × List Int) (fun g => ⟨[(0, .arr 1001 0 v1.length), (1, .box 1 0), (2, .box 2 0), (4, .box 6 0), (8, .d (.int .i64 v109)), (9, .arr 1009 0 g.2.length), (10, .d (.int .i64 g.1))], [(1, some (.box [.d (.sl (List.map iD v2)), .d (.sl (List.map Row.D v3))])), (2, some (.box [.arr 3 0 v111.length])), (3, some (.arr 3 1 (List.map iD v111))), (4, some (.box [.arr 5 0 v110.length])), (5, some (.arr 22 1 (List.map (lD iD) v110))), (6, some (.box [.fn 41 [.box 1 0, .box 2 0, .box 4 0, .box 6 0]])), (1001, some (.pre (List.map (D.int .i64) v1))), (1009, some (.arr 3 1 (List.map iD g.2)))]⟩) (fun g : Int × List Int => assembly_All_1_2_l3 v2 v3 v109 v110 v111 v1 g.1 g.2) _ (fun g y575 hx ih542 hr543 => ?_) (IntKind.i64.wrap (v109 + 1), (v134.set (v109).toNat 1)) hx
        obtain ⟨v147, v148⟩ := g
        unfold assembly_All_1_2_l3 at hx
        try dsimp only at hx ⊢
        refine Walk.seq (Walk.seq (Walk.region' rfl fun K hK => ?_))
        simp only [go_sem, seval, c487, a491, b492, c493]
        refine hK _ ?_
        clear hK K
        refine Walk.condO rfl hx (fun c544 hx => ?_) (fun c544 hx => ?_)
        · refine Walk.skip (Walk.seq (Walk.block (Walk.region' rfl fun K hK => ?_)))
          obtain ⟨v150, r545, a546, b547, c548, hx⟩ := rd_elim hx
          simp only [go_sem, seval, c487, a491, b492, c493, c544, a546, b547, c548]
          repeat refine And.intro (by first | omega | (simp; done) | (simp; omega)) ?_
          refine hK _ ?_
          clear hK K
          refine Walk.weaken ⟨[(0, .arr 1001 0 v1.length), (1, .box 1 0), (2, .box 2 0), (4, .box 6 0), (8, .d (.int .i64 v109)), (9, .arr 1009 0 (((v148.set (v147).toNat (-1))).length)), (10, .d (.int .i64 v147))], [(1, some (.box [.d (.sl (List.map iD v2)), .d (.sl (List.map Row.D v3))])), (2, some (.box [.arr 3 0 v111.length])), (3, some (.arr 3 1 (List.map iD v111))), (4, some (.box [.arr 5 0 v110.length])), (5, some (.arr 22 1 (List.map (lD iD) v110))), (6, some (.box [.fn 41 [.box 1 0, .box 2 0, .box 4 0, .box 6 0]])), (1001, some (.pre (List.map (D.int .i64) v1))), (1009, some (.arr 3 1 (List.map iD ((v148.set (v147).toNat (-1))))))]⟩ (by simp [c487, a491, b492, c493, c544, a546, b547, c548] <;> omega) (by simp [c487, a491, b492, c493, c544, a546, b547, c548] <;> omega) ?_
          refine Walk.inBlock (Walk.region' rfl fun K hK => ?_)
          simp only [go_sem, seval, c487, a491, b492, c493, c544, a546, b547, c548]
          refine hK _ ?_
          clear hK K
          exact Walk.weaken _ (by simp [c487, a491, b492, c493, c544, a546, b547, c548] <;> omega) (by simp [c487, a491, b492, c493, c544, a546, b547, c548] <;> omega) (ih542 _ (cont_elim hx))
        refine Walk.exit rfl ?_
        obtain ⟨z549, e550, hx⟩ := exit_elim hx
        rw [hr543 z549 e550] at hx
        refine Walk.seq (Walk.seq (Walk.region' rfl fun K hK => ?_))
        obtain ⟨v152, h553, hx⟩ := bind_elim hx
        simp only [go_sem, seval, c487, a491, b492, c493, c544]
        refine VCl.lent rfl (by simp only [go_sem, seval, c487, a491, b492, c493, c544]; try simp) (blueprint_Dead_ok v2 v3 v148 _ h553) (by simp [c487, a491, b492, c493, c544]) (by simp [c487, a491, b492, c493, c544]) (by simp [c487, a491, b492, c493, c544]) (by simp [c487, a491, b492, c493, c544]) (by simp [c487, a491, b492, c493, c544]) (by simp [c487, a491, b492, c493, c544]) (by simp [c487, a491, b492, c493, c544]) ?_
        simp only [go_sem, seval, c487, a491, b492, c493, c544]
        refine hK _ ?_
        clear hK K
        refine Walk.condO rfl hx (fun c555 hx => ?_) (fun c555 hx => ?_)
        · refine Walk.exit rfl (Walk.region' rfl fun K hK => ?_)
          simp only [go_sem, seval, c487, a491, b492, c493, c544, c555]
          refine hK _ ?_
          clear hK K
          exact Walk.weaken _ (by simp [c487, a491, b492, c493, c544, c555] <;> omega) (by simp [c487, a491, b492, c493, c544, c555] <;> omega) (ih483 _ (cont_elim hx))
        refine Walk.skip (Walk.seq (Walk.region' rfl fun K hK => ?_))
        obtain ⟨v153, r556, a557, b558, c559, hx⟩ := rd_elim hx
        simp only [go_sem, seval, c487, a491, b492, c493, c544, c555, a557, b558, c559]
        repeat refine And.intro (by first | omega | (simp; done) | (simp; omega)) ?_
        refine hK _ ?_
        clear hK K
        refine Walk.weaken ⟨[(0, .arr 1001 0 v1.length), (1, .box 1 0), (2, .box 2 0), (4, .box 6 0), (8, .d (.int .i64 v109))], [(1, some (.box [.d (.sl (List.map iD v2)), .d (.sl (List.map Row.D v3))])), (2, some (.box [.arr 3 0 (((v111.set (v109).toNat 1)).length)])), (3, some (.arr 3 1 (List.map iD ((v111.set (v109).toNat 1))))), (4, some (.box [.arr 5 0 v110.length])), (5, some (.arr 22 1 (List.map (lD iD) v110))), (6, some (.box [.fn 41 [.box 1 0, .box 2 0, .box 4 0, .box 6 0]])), (1001, some (.pre (List.map (D.int .i64) v1)))]⟩ (by simp [c487, a491, b492, c493, c544, c555, a557, b558, c559] <;> omega) (by simp [c487, a491, b492, c493, c544, c555, a557, b558, c559] <;> omega) ?_
        refine Walk.seq ?_
        refine Walk.weaken ⟨[(0, .arr 1001 0 v1.length), (1, .box 1 0), (2, .box 2 0), (4, .box 6 0), (8, .d (.int .i64 v109))], [(1, some (.box [.d (.sl (List.map iD v2)), .d (.sl (List.map Row.D v3))])), (2, some (.box [.arr 3 0 (((v111.set (v109).toNat 1)).length)])), (3, some (.arr 3 1 (List.map iD ((v111.set (v109).toNat 1))))), (4, some (.box [.arr 5 0 v110.length])), (5, some (.arr 22 1 (List.map (lD iD) v110))), (6, some (.box [.fn 41 [.box 1 0, .box 2 0, .box 4 0, .box 6 0]])), (1001, some (.pre (List.map (D.int .i64) v1)))]⟩ (by simp [c487, a491, b492, c493, c544, c555, a557, b558, c559] <;> omega) (by simp [c487, a491, b492, c493, c544, c555, a557, b558, c559] <;> omega) ?_
        refine Walk.openP 1001 v1 [(1, some (.box [.d (.sl (List.map iD v2)), .d (.sl (List.map Row.D v3))])), (2, some (.box [.arr 3 0 (((v111.set (v109).toNat 1)).length)])), (3, some (.arr 3 1 (List.map iD ((v111.set (v109).toNat 1))))), (4, some (.box [.arr 5 0 v110.length])), (5, some (.arr 22 1 (List.map (lD iD) v110))), (6, some (.box [.fn 41 [.box 1 0, .box 2 0, .box 4 0, .box 6 0]])), (1001, some (.box (List.map iA v1)))] (fun m560 => [(1, some (.box [.d (.sl (List.map iD v2)), .d (.sl (List.map Row.D v3))])), (2, some (.box [.arr 3 0 (((v111.set (v109).toNat 1)).length)])), (3, some (.arr 3 1 (List.map iD ((v111.set (v109).toNat 1))))), (4, some (.box [.arr 5 0 v110.length])), (5, some (.arr 22 1 (List.map (lD iD) v110))), (6, some (.box [.fn 41 [.box 1 0, .box 2 0, .box 4 0, .box 6 0]])), (1001, some (.box (List.map iA v1 ++ .any :: List.replicate m560 .any)))]) (by simp) (by simp [swH]) (fun m560 => by simp [swH]) ?_ (fun m560 => ?_)
        · refine Walk.drawn' rfl mixed fun K hK => ?_
          obtain ⟨k561, hx⟩ := chk_elim hx
          obtain ⟨v154, h562, hx⟩ := bind_elim hx
          have w563 := ((assembly_All_1_3_ok (v1 ++ [v109]) v2 v3 (v111.set (v109).toNat 1) v110 _ h562).swap 0 71)
          simp only [renE, renL, AV.ren, AV.rens, AObj.ren, swp, Option.map_some, reduceIte, Nat.reduceEqDiff] at w563
          simp only [go_sem, seval, c487, a491, b492, c493, c544, c555, a557, b558, c559, k561]
          repeat refine And.intro (by first | omega | (simp; done) | (simp; omega)) ?_
          refine VCl.sub [(71, some (.pre (List.map (D.int .i64) (v1 ++ [v109])))), (1, some (.box [.d (.sl (List.map iD v2)), .d (.sl (List.map Row.D v3))])), (2, some (.box [.arr 3 0 (((v111.set (v109).toNat 1)).length)])), (3, some (.arr 3 1 (List.map iD ((v111.set (v109).toNat 1))))), (4, some (.box [.arr 5 0 v110.length])), (5, some (.arr 22 1 (List.map (lD iD) v110))), (6, some (.box [.fn 41 [.box 1 0, .box 2 0, .box 4 0, .box 6 0]]))] [] rfl (by simp only [go_sem, seval, AV.viewXs, AV.viewX, avD, c487, a491, b492, c493, c544, c555, a557, b558, c559, k561]; try simp) (w563) (by simp [c487, a491, b492, c493, c544, c555, a557, b558, c559, k561]) (by simp [c487, a491, b492, c493, c544, c555, a557, b558, c559, k561]) (by simp [c487, a491, b492, c493, c544, c555, a557, b558, c559, k561]) (by simp [c487, a491, b492, c493, c544, c555, a557, b558, c559, k561]) (by simp [c487, a491, b492, c493, c544, c555, a557, b558, c559, k561]) (by simp [c487, a491, b492, c493, c544, c555, a557, b558, c559, k561]) (by simp [c487, a491, b492, c493, c544, c555, a557, b558, c559, k561]) (by simp [c487, a491, b492, c493, c544, c555, a557, b558, c559, k561]) (by simp [c487, a491, b492, c493, c544, c555, a557, b558, c559, k561]) (by simp [c487, a491, b492, c493, c544, c555, a557, b558, c559, k561]) ?_
          simp only [go_sem, seval, c487, a491, b492, c493, c544, c555, a557, b558, c559, k561]
          refine hK _ _ (by kernel_rfl) (by simp [c487, a491, b492, c493, c544, c555, a557, b558, c559, k561]) ?_
          clear hK K
          refine Walk.weaken ⟨[(0, .arr 1001 0 v1.length), (1, .box 1 0), (2, .box 2 0), (4, .box 6 0), (8, .d (.int .i64 v109))], [(1, some (.box [.d (.sl (List.map iD v2)), .d (.sl (List.map Row.D v3))])), (2, some (.box [.arr 3 0 v154.2.length])), (3, some (.arr 3 1 (List.map iD v154.2))), (4, some (.box [.arr 5 0 v154.1.length])), (5, some (.arr 22 1 (List.map (lD iD) v154.1))), (6, some (.box [.fn 41 [.box 1 0, .box 2 0, .box 4 0, .box 6 0]])), (1001, some (.box (List.map iA v1)))]⟩ (by simp [c487, a491, b492, c493, c544, c555, a557, b558, c559, k561] <;> omega) (by simp [c487, a491, b492, c493, c544, c555, a557, b558, c559, k561] <;> omega) ?_
          refine Walk.weaken ⟨[(0, .arr 1001 0 v1.length), (1, .box 1 0), (2, .box 2 0), (4, .box 6 0), (8, .d (.int .i64 v109))], [(1, some (.box [.d (.sl (List.map iD v2)), .d (.sl (List.map Row.D v3))])), (2, some (.box [.arr 3 0 v154.2.length])), (3, some (.arr 3 1 (List.map iD v154.2))), (4, some (.box [.arr 5 0 v154.1.length])), (5, some (.arr 22 1 (List.map (lD iD) v154.1))), (6, some (.box [.fn 41 [.box 1 0, .box 2 0, .box 4 0, .box 6 0]])), (1001, some (.box (List.map iA v1)))]⟩ (by simp [c487, a491, b492, c493, c544, c555, a557, b558, c559, k561] <;> omega) (by simp [c487, a491, b492, c493, c544, c555, a557, b558, c559, k561] <;> omega) ?_
          refine Walk.boxPre 1001 v1 [(1, some (.box [.d (.sl (List.map iD v2)), .d (.sl (List.map Row.D v3))])), (2, some (.box [.arr 3 0 v154.2.length])), (3, some (.arr 3 1 (List.map iD v154.2))), (4, some (.box [.arr 5 0 v154.1.length])), (5, some (.arr 22 1 (List.map (lD iD) v154.1))), (6, some (.box [.fn 41 [.box 1 0, .box 2 0, .box 4 0, .box 6 0]])), (1001, some (.pre (List.map (D.int .i64) v1)))] (by simp) (by simp [swH]) ?_
          refine Walk.region' rfl fun K hK => ?_
          obtain ⟨v155, r564, a565, b566, c567, hx⟩ := rd_elim hx
          simp only [go_sem, seval, c487, a491, b492, c493, c544, c555, a557, b558, c559, k561, a565, b566, c567]
          repeat refine And.intro (by first | omega | (simp; done) | (simp; omega)) ?_
          refine hK _ ?_
          clear hK K
          refine Walk.weaken ⟨[(0, .arr 1001 0 v1.length), (1, .box 1 0), (2, .box 2 0), (4, .box 6 0), (8, .d (.int .i64 v109))], [(1, some (.box [.d (.sl (List.map iD v2)), .d (.sl (List.map Row.D v3))])), (2, some (.box [.arr 3 0 (((v154.2.set (v109).toNat 0)).length)])), (3, some (.arr 3 1 (List.map iD ((v154.2.set (v109).toNat 0))))), (4, some (.box [.arr 5 0 v154.1.length])), (5, some (.arr 22 1 (List.map (lD iD) v154.1))), (6, some (.box [.fn 41 [.box 1 0, .box 2 0, .box 4 0, .box 6 0]])), (1001, some (.pre (List.map (D.int .i64) v1)))]⟩ (by simp [c487, a491, b492, c493, c544, c555, a557, b558, c559, k561, a565, b566, c567] <;> omega) (by simp [c487, a491, b492, c493, c544, c555, a557, b558, c559, k561, a565, b566, c567] <;> omega) ?_
          refine Walk.inBlock (Walk.region' rfl fun K hK => ?_)
          simp only [go_sem, seval, c487, a491, b492, c493, c544, c555, a557, b558, c559, k561, a565, b566, c567]
          refine hK _ ?_
          clear hK K
          exact Walk.weaken _ (by simp [c487, a491, b492, c493, c544, c555, a557, b558, c559, k561, a565, b566, c567] <;> omega) (by simp [c487, a491, b492, c493, c544, c555, a557, b558, c559, k561, a565, b566, c567] <;> omega) (ih483 _ (cont_elim hx))
        refine Walk.drawn' rfl mixed fun K hK => ?_
        obtain ⟨k568, hx⟩ := chk_elim hx
        obtain ⟨v154, h569, hx⟩ := bind_elim hx
        have w570 := ((assembly_All_1_3_ok (v1 ++ [v109]) v2 v3 (v111.set (v109).toNat 1) v110 _ h569).swap 0 1001)
        simp only [renE, renL, AV.ren, AV.rens, AObj.ren, swp, Option.map_some, reduceIte, Nat.reduceEqDiff] at w570
        simp only [go_sem, seval, c487, a491, b492, c493, c544, c555, a557, b558, c559, k568]
        repeat refine And.intro (by first | omega | (simp; done) | (simp; omega)) ?_
        refine VCl.sub [(1001, some (.pre (List.map (D.int .i64) (v1 ++ [v109])))), (1, some (.box [.d (.sl (List.map iD v2)), .d (.sl (List.map Row.D v3))])), (2, some (.box [.arr 3 0 (((v111.set (v109).toNat 1)).length)])), (3, some (.arr 3 1 (List.map iD ((v111.set (v109).toNat 1))))), (4, some (.box [.arr 5 0 v110.length])), (5, some (.arr 22 1 (List.map (lD iD) v110))), (6, some (.box [.fn 41 [.box 1 0, .box 2 0, .box 4 0, .box 6 0]]))] [] rfl (by simp only [go_sem, seval, AV.viewXs, AV.viewX, avD, c487, a491, b492, c493, c544, c555, a557, b558, c559, k568]; try simp) (w570) (by simp [c487, a491, b492, c493, c544, c555, a557, b558, c559, k568]) (by simp [c487, a491, b492, c493, c544, c555, a557, b558, c559, k568]) (by simp [c487, a491, b492, c493, c544, c555, a557, b558, c559, k568]) (by simp [c487, a491, b492, c493, c544, c555, a557, b558, c559, k568]) (by simp [c487, a491, b492, c493, c544, c555, a557, b558, c559, k568]) (by simp [c487, a491, b492, c493, c544, c555, a557, b558, c559, k568]) (by simp [c487, a491, b492, c493, c544, c555, a557, b558, c559, k568]) (by simp [c487, a491, b492, c493, c544, c555, a557, b558, c559, k568]) (by simp [c487, a491, b492, c493, c544, c555, a557, b558, c559, k568]) (by simp [c487, a491, b492, c493, c544, c555, a557, b558, c559, k568]) ?_
        simp only [go_sem, seval, c487, a491, b492, c493, c544, c555, a557, b558, c559, k568]
        refine hK _ _ (by kernel_rfl) (by simp [c487, a491, b492, c493, c544, c555, a557, b558, c559, k568]) ?_
        clear hK K
        refine Walk.weaken ⟨[(0, .arr 1001 0 v1.length), (1, .box 1 0), (2, .box 2 0), (4, .box 6 0), (8, .d (.int .i64 v109))], [(1, some (.box [.d (.sl (List.map iD v2)), .d (.sl (List.map Row.D v3))])), (2, some (.box [.arr 3 0 v154.2.length])), (3, some (.arr 3 1 (List.map iD v154.2))), (4, some (.box [.arr 5 0 v154.1.length])), (5, some (.arr 22 1 (List.map (lD iD) v154.1))), (6, some (.box [.fn 41 [.box 1 0, .box 2 0, .box 4 0, .box 6 0]])), (1001, some (.pre (List.map (D.int .i64) (v1 ++ [v109]))))]⟩ (by simp [c487, a491, b492, c493, c544, c555, a557, b558, c559, k568] <;> omega) (by simp [c487, a491, b492, c493, c544, c555, a557, b558, c559, k568] <;> omega) ?_
        refine Walk.weaken ⟨[(0, .arr 1001 0 v1.length), (1, .box 1 0), (2, .box 2 0), (4, .box 6 0), (8, .d (.int .i64 v109))], [(1, some (.box [.d (.sl (List.map iD v2)), .d (.sl (List.map Row.D v3))])), (2, some (.box [.arr 3 0 v154.2.length])), (3, some (.arr 3 1 (List.map iD v154.2))), (4, some (.box [.arr 5 0 v154.1.length])), (5, some (.arr 22 1 (List.map (lD iD) v154.1))), (6, some (.box [.fn 41 [.box 1 0, .box 2 0, .box 4 0, .box 6 0]])), (1001, some (.pre (List.map (D.int .i64) (v1 ++ [v109]))))]⟩ (by simp [c487, a491, b492, c493, c544, c555, a557, b558, c559, k568] <;> omega) (by simp [c487, a491, b492, c493, c544, c555, a557, b558, c559, k568] <;> omega) ?_
        refine Walk.shrink 1001 (List.map (D.int .i64) v1) (List.map (D.int .i64) [v109]) [(1, some (.box [.d (.sl (List.map iD v2)), .d (.sl (List.map Row.D v3))])), (2, some (.box [.arr 3 0 v154.2.length])), (3, some (.arr 3 1 (List.map iD v154.2))), (4, some (.box [.arr 5 0 v154.1.length])), (5, some (.arr 22 1 (List.map (lD iD) v154.1))), (6, some (.box [.fn 41 [.box 1 0, .box 2 0, .box 4 0, .box 6 0]])), (1001, some (.pre (List.map (D.int .i64) v1)))] (by simp) (by simp [swH]) ?_
        try dsimp only
        refine Walk.region' rfl fun K hK => ?_
        obtain ⟨v155, r571, a572, b573, c574, hx⟩ := rd_elim hx
        simp only [go_sem, seval, c487, a491, b492, c493, c544, c555, a557, b558, c559, k568, a572, b573, c574]
        repeat refine And.intro (by first | omega | (simp; done) | (simp; omega)) ?_
        refine hK _ ?_
        clear hK K
        refine Walk.weaken ⟨[(0, .arr 1001 0 v1.length), (1, .box 1 0), (2, .box 2 0), (4, .box 6 0), (8, .d (.int .i64 v109))], [(1, some (.box [.d (.sl (List.map iD v2)), .d (.sl (List.map Row.D v3))])), (2, some (.box [.arr 3 0 (((v154.2.set (v109).toNat 0)).length)])), (3, some (.arr 3 1 (List.map iD ((v154.2.set (v109).toNat 0))))), (4, some (.box [.arr 5 0 v154.1.length])), (5, some (.arr 22 1 (List.map (lD iD) v154.1))), (6, some (.box [.fn 41 [.box 1 0, .box 2 0, .box 4 0, .box 6 0]])), (1001, some (.pre (List.map (D.int .i64) v1)))]⟩ (by simp [c487, a491, b492, c493, c544, c555, a557, b558, c559, k568, a572, b573, c574] <;> omega) (by simp [c487, a491, b492, c493, c544, c555, a557, b558, c559, k568, a572, b573, c574] <;> omega) ?_
        refine Walk.inBlock (Walk.region' rfl fun K hK => ?_)
        simp only [go_sem, seval, c487, a491, b492, c493, c544, c555, a557, b558, c559, k568, a572, b573, c574]
        refine hK _ ?_
        clear hK K
        exact Walk.weaken _ (by simp [c487, a491, b492, c493, c544, c555, a557, b558, c559, k568, a572, b573, c574] <;> omega) (by simp [c487, a491, b492, c493, c544, c555, a557, b558, c559, k568, a572, b573, c574] <;> omega) (ih483 _ (cont_elim hx))
      refine Walk.exit rfl ?_
      obtain ⟨z576, e577, hx⟩ := exit_elim hx
      rw [hr484 z576 e577] at hx
      refine Walk.inScope ?_
      obtain rfl := Option.some.inj hx
      exact Walk.weaken _ (by simp [c487] <;> omega) (by simp [c487] <;> omega) (Walk.done rfl)
    refine Walk.seq (Walk.region' rfl fun K hK => ?_)
    simp only [go_sem, seval]
    refine hK _ ?_
    clear hK K
    refine Walk.seq (Walk.region' rfl fun K hK => ?_)
    simp only [go_sem, seval]
    refine hK _ ?_
    clear hK K
    refine Walk.condO rfl hx (fun c579 hx => ?_) (fun c579 hx => ?_)
    · refine Walk.region' rfl fun K hK => ?_
      obtain ⟨v156, r580, a581, b582, c583, q584, d585, e586, hx⟩ := rdA_elim hx
      simp only [go_sem, seval, c579, a581, b582, c583, q584, d585, e586]
      repeat refine And.intro (by first | omega | (simp; done) | (simp; omega)) ?_
      refine hK _ ?_
      clear hK K
      exact Walk.weaken _ (by simp [c579, a581, b582, c583, q584, d585, e586] <;> omega) (by simp [c579, a581, b582, c583, q584, d585, e586] <;> omega) (fin302 (IntKind.i64.wrap (v156 + 1)) hx)
    refine Walk.skip ?_
    exact Walk.weaken _ (by simp [c579] <;> omega) (by simp [c579] <;> omega) (fin302 0 hx)
  refine Walk.seq (Walk.region' rfl fun K hK => ?_)
  obtain ⟨v157, h587, hx⟩ := bind_elim hx
  simp only [go_sem, seval]
  refine VCl.lent rfl (by simp only [go_sem, seval]; try simp) (blueprint_Dead_ok v2 v3 v4 _ h587) (by simp) (by simp) (by simp) (by simp) (by simp) (by simp) (by simp) ?_
  simp only [go_sem, seval]
  refine hK _ ?_
  clear hK K
  refine Walk.condO rfl hx (fun c588 hx => ?_) (fun c588 hx => ?_)
  · refine Walk.drawn' rfl mixed fun K hK => ?_
    obtain ⟨v158, h589, hx⟩ := bind_elim hx
    have w590 := ((slices_Clone_int_ok v1 _ h589).swap 2000 1010)
    simp only [renE, renL, AV.ren, AV.rens, AObj.ren, swp, Option.map_some, reduceIte, Nat.reduceEqDiff] at w590
    simp only [go_sem, seval, c588]
    refine VCl.lent rfl (by simp only [go_sem, seval, c588]; try simp) (w590) (by simp [c588]) (by simp [c588]) (by simp [c588]) (by simp [c588]) (by simp [c588]) (by simp [c588]) (by simp [c588]) ?_
    obtain ⟨k591, hx⟩ := chk_elim hx
    simp only [go_sem, seval, c588, k591]
    repeat refine And.intro (by first | omega | (simp; done) | (simp; omega)) ?_
    refine hK _ _ (by kernel_rfl) (by simp [c588, k591]) ?_
    clear hK K
    refine Walk.weaken ⟨[(0, .arr 1001 0 v1.length), (1, .box 1 0), (2, .box 2 0), (4, .box 6 0)], [(1, some (.box [.d (.sl (List.map iD v2)), .d (.sl (List.map Row.D v3))])), (2, some (.box [.arr 3 0 v4.length])), (3, some (.arr 3 1 (List.map iD v4))), (4, some (.box [.arr 5 0 ((v5 ++ [v158]).length)])), (5, some (.arr 22 1 (List.map (lD iD) (v5 ++ [v158])))), (6, some (.box [.fn 41 [.box 1 0, .box 2 0, .box 4 0, .box 6 0]])), (1001, some (.pre (List.map (D.int .i64) v1)))]⟩ (by simp [c588, k591] <;> omega) (by simp [c588, k591] <;> omega) ?_
    exact Walk.weaken _ (by simp [c588, k591] <;> omega) (by simp [c588, k591] <;> omega) (fin293 (v5 ++ [v158]) hx)
  refine Walk.skip ?_
  exact Walk.weaken _ (by simp [c588] <;> omega) (by simp [c588] <;> omega) (fin293 v5 hx)
noncomputable def assembly_All_1_l2 (v1 : List Int) (v2 : List Row) (v103 : Int) (v104 : List (List Int)) (v105 : List Int) (v141 : Int) (v142 : List Int) : Option ((Int × List Int) ⊕ ((Int × List (List Int) × List Int) ⊕ (List (List Int) × List Int))) :=
  bif decide (v141 < (v142.length : Int)) then ((rd v142 v141).bind fun v144 => contO ((IntKind.i64.wrap (v141 + 1), (v142.set (v141).toNat (-1))) : Int × List Int)) else (exitO ((blueprint_Dead v1 v2 v142).bind fun v146 => bif decide (v146 ≥ 0) then (contO ((IntKind.i64.wrap (v103 + 1), v104, v105) : Int × List (List Int) × List Int)) else ((rd v105 v103).bind fun v147 => (assembly_All_1_2 [v103] v1 v2 (v105.set (v103).toNat 1) v104).bind fun v148 => (rd v148.2 v103).bind fun v149 => contO ((IntKind.i64.wrap (v103 + 1), v148.1, (v148.2.set (v103).toNat 0)) : Int × List (List Int) × List Int))))
noncomputable def assembly_All_1_l1 (v1 : List Int) (v2 : List Row) (v103 : Int) (v104 : List (List Int)) (v105 : List Int) : Option ((Int × List (List Int) × List Int) ⊕ (List (List Int) × List Int)) :=
  bif decide (v103 < (v105.length : Int)) then ((slices_Clone_int v105).bind fun v128 => (rd v128 v103).bind fun v129 => iter (fun g : Int × List Int => assembly_All_1_l2 v1 v2 v103 v104 v105 g.1 g.2) (IntKind.i64.wrap (v103 + 1), (v128.set (v103).toNat 1))) else (exitO (some ((v104, v105) : List (List Int) × List Int)))
noncomputable def assembly_All_1_j0 (v1 : List Int) (v2 : List Row) (v3 : List Int) (v80 : List (List Int)) : Option (List (List Int) × List Int) :=
  iter (fun g : Int × List (List Int) × List Int => assembly_All_1_l1 v1 v2 g.1 g.2.1 g.2.2) (0, v80, v3)
noncomputable def assembly_All_1 (v1 : List Int) (v2 : List Row) (v3 : List Int) : Option (List (List Int) × List Int) :=
  (blueprint_Dead v1 v2 v3).bind fun v150 => bif decide (v150 < 0) then ((slices_Clone_int []).bind fun v151 => assembly_All_1_j0 v1 v2 v3 [v151]) else (assembly_All_1_j0 v1 v2 v3 [])
theorem assembly_All_1_ok (v1 : List Int) (v2 : List Row) (v3 : List Int) (r : List (List Int) × List Int) (hx : assembly_All_1 v1 v2 v3 = some r) :
    ACalls Try.prog 41 [.nils, .box 0 0, .box 1 0, .box 3 0, .box 4 0] [(0, some (.box [.d (.sl (List.map iD v1)), .d (.sl (List.map Row.D v2))])), (1, some (.box [.arr 2 0 v3.length])), (2, some (.arr 3 1 (List.map iD v3))), (3, some (.box [.nils])), (4, some (.box [.fn 41 [.box 0 0, .box 1 0, .box 3 0, .box 4 0]]))] (.tup []) [(0, some (.box [.d (.sl (List.map iD v1)), .d (.sl (List.map Row.D v2))])), (1, some (.box [.arr 2 0 r.2.length])), (2, some (.arr 3 1 (List.map iD r.2))), (3, some (.box [.arr 2000 0 r.1.length])), (4, some (.box [.fn 41 [.box 0 0, .box 1 0, .box 3 0, .box 4 0]])), (2000, some (.arr 22 1 (List.map (lD iD) r.1)))] := by
  refine ACalls.of_sem (n := 69) 5 [] (fn := Try.f41) Try.func41 rfl rfl (.zero rfl) rfl (by simp) (by intro i; simp only [hget]; (repeat' split) <;> simp <;> omega) ?_
  unfold assembly_All_1 at hx
  refine Walk.scope (Walk.seq (Walk.join (G := List (List Int)) (fun g => ⟨[(0, .nils), (1, .box 0 0), (2, .box 1 0), (4, .box 4 0)], [(0, some (.box [.d (.sl (List.map iD v1)), .d (.sl (List.map Row.D v2))])), (1, some (.box [.arr 2 0 v3.length])), (2, some (.arr 3 1 (List.map iD v3))), (3, some (.box [.arr 24 0 g.length])), (4, some (.box [.fn 41 [.box 0 0, .box 1 0, .box 3 0, .box 4 0]])), (24, some (.arr 22 1 (List.map (lD iD) g)))]⟩) (fun g => assembly_All_1_j0 v1 v2 v3 g) hx (fun v80 hx => ?_) (fun fin256 => ?_)))
  · unfold assembly_All_1_j0 at hx
    try dsimp only at hx ⊢
    refine Walk.seq (Walk.region' rfl fun K hK => ?_)
    simp only [go_sem, seval]
    refine hK _ ?_
    clear hK K
    refine Walk.seq (Walk.seq (Walk.region' rfl fun K hK => ?_))
    simp only [go_sem, seval]
    refine hK _ ?_
    clear hK K
    refine Walk.seq (Walk.region' rfl fun K hK => ?_)
    simp only [go_sem, seval]
    refine hK _ ?_
    clear hK K
    refine Walk.condF rfl (Walk.skip (Walk.seq (Walk.label (Walk.seq (Walk.region' rfl fun K hK => ?_)))))
    simp only [go_sem, seval]
    refine hK _ ?_
    clear hK K
    refine Walk.block (Walk.loop ?_)
    refine Walk.weaken ⟨[(0, .nils), (1, .box 0 0), (2, .box 1 0), (4, .box 4 0), (8, .d (.int .i64 0))], [(0, some (.box [.d (.sl (List.map iD v1)), .d (.sl (List.map Row.D v2))])), (1, some (.box [.arr 2 0 v3.length])), (2, some (.arr 3 1 (List.map iD v3))), (3, some (.box [.arr 24 0 v80.length])), (4, some (.box [.fn 41 [.box 0 0, .box 1 0, .box 3 0, .box 4 0]])), (24, some (.arr 22 1 (List.map (lD iD) v80)))]⟩ (by simp <;> omega) (by simp <;> omega) ?_
    refine Walk.iter (σ := Int × List (List Int) × List Int) (fun g => ⟨[(0, .nils), (1, .box 0 0), (2, .box 1 0), (4, .box 4 0), (8, .d (.int .i64 g.1))], [(0, some (.box [.d (.sl (List.map iD v1)), .d (.sl (List.map Row.D v2))])), (1, some (.box [.arr 2 0 g.2.2.length])), (2, some (.arr 3 1 (List.map iD g.2.2))), (3, some (.box [.arr 24 0 g.2.1.length])), (4, some (.box [.fn 41 [.box 0 0, .box 1 0, .box 3 0, .box 4 0]])), (24, some (.arr 22 1 (List.map (lD iD) g.2.1)))]⟩) (fun g : Int × List (List Int) × List Int => assembly_All_1_l1 v1 v2 g.1 g.2.1 g.2.2) _ (fun g y505 hx ih419 hr420 => ?_) (0, v80, v3) hx
    obtain ⟨v103, v104, v105⟩ := g
    unfold assembly_All_1_l1 at hx
    try dsimp only at hx ⊢
    refine Walk.seq (Walk.seq (Walk.region' rfl fun K hK => ?_))
    simp only [go_sem, seval]
    refine hK _ ?_
    clear hK K
    refine Walk.condO rfl hx (fun c423 hx => ?_) (fun c423 hx => ?_)
    · refine Walk.skip (Walk.seq (Walk.block (Walk.seq (Walk.region' rfl fun K hK => ?_))))
      obtain ⟨v128, h424, hx⟩ := bind_elim hx
      have w425 := ((slices_Clone_int_ok v105 _ h424).swap 2000 1008)
      simp only [renE, renL, AV.ren, AV.rens, AObj.ren, swp, Option.map_some, reduceIte, Nat.reduceEqDiff] at w425
      simp only [go_sem, seval, c423]
      refine VCl.lent rfl (by simp only [go_sem, seval, c423]; try simp) (w425) (by simp [c423]) (by simp [c423]) (by simp [c423]) (by simp [c423]) (by simp [c423]) (by simp [c423]) (by simp [c423]) ?_
      simp only [go_sem, seval, c423]
      refine hK _ ?_
      clear hK K
      refine Walk.weaken ⟨[(0, .nils), (1, .box 0 0), (2, .box 1 0), (4, .box 4 0), (8, .d (.int .i64 v103)), (9, .arr 1008 0 v128.length)], [(0, some (.box [.d (.sl (List.map iD v1)), .d (.sl (List.map Row.D v2))])), (1, some (.box [.arr 2 0 v105.length])), (2, some (.arr 3 1 (List.map iD v105))), (3, some (.box [.arr 24 0 v104.length])), (4, some (.box [.fn 41 [.box 0 0, .box 1 0, .box 3 0, .box 4 0]])), (24, some (.arr 22 1 (List.map (lD iD) v104))), (1008, some (.arr 3 1 (List.map iD v128)))]⟩ (by simp [c423] <;> omega) (by simp [c423] <;> omega) ?_
      refine Walk.seq (Walk.region' rfl fun K hK => ?_)
      obtain ⟨v129, r426, a427, b428, c429, hx⟩ := rd_elim hx
      simp only [go_sem, seval, c423, a427, b428, c429]
      repeat refine And.intro (by first | omega | (simp; done) | (simp; omega)) ?_
      refine hK _ ?_
      clear hK K
      refine Walk.weaken ⟨[(0, .nils), (1, .box 0 0), (2, .box 1 0), (4, .box 4 0), (8, .d (.int .i64 v103)), (9, .arr 1008 0 (((v128.set (v103).toNat 1)).length))], [(0, some (.box [.d (.sl (List.map iD v1)), .d (.sl (List.map Row.D v2))])), (1, some (.box [.arr 2 0 v105.length])), (2, some (.arr 3 1 (List.map iD v105))), (3, some (.box [.arr 24 0 v104.length])), (4, some (.box [.fn 41 [.box 0 0, .box 1 0, .box 3 0, .box 4 0]])), (24, some (.arr 22 1 (List.map (lD iD) v104))), (1008, some (.arr 3 1 (List.map iD ((v128.set (v103).toNat 1)))))]⟩ (by simp [c423, a427, b428, c429] <;> omega) (by simp [c423, a427, b428, c429] <;> omega) ?_
      refine Walk.seq (Walk.seq (Walk.region' rfl fun K hK => ?_))
      simp only [go_sem, seval, c423, a427, b428, c429]
      refine hK _ ?_
      clear hK K
      refine Walk.block (Walk.loop ?_)
      refine Walk.weaken ⟨[(0, .nils), (1, .box 0 0), (2, .box 1 0), (4, .box 4 0), (8, .d (.int .i64 v103)), (9, .arr 1008 0 (((v128.set (v103).toNat 1)).length)), (10, .d (.int .i64 ((IntKind.i64.wrap (v103 + 1)))))], [(0, some (.box [.d (.sl (List.map iD v1)), .d (.sl (List.map Row.D v2))])), (1, some (.box [.arr 2 0 v105.length])), (2, some (.arr 3 1 (List.map iD v105))), (3, some (.box [.arr 24 0 v104.length])), (4, some (.box [.fn 41 [.box 0 0, .box 1 0, .box 3 0, .box 4 0]])), (24, some (.arr 22 1 (List.map (lD iD) v104))), (1008, some (.arr 3 1 (List.map iD ((v128.set (v103).toNat 1)))))]⟩ (by simp [c423, a427, b428, c429] <;> omega) (by simp [c423, a427, b428, c429] <;> omega) ?_
      refine Walk.iter (σ := Int × List Int) (fun g => ⟨[(0, .nils), (1, .box 0 0), (2, .box 1 0), (4, .box 4 0), (8, .d (.int .i64 v103)), (9, .arr 1008 0 g.2.length), (10, .d (.int .i64 g.1))], [(0, some (.box [.d (.sl (List.map iD v1)), .d (.sl (List.map Row.D v2))])), (1, some (.box [.arr 2 0 v105.length])), (2, some (.arr 3 1 (List.map iD v105))), (3, some (.box [.arr 24 0 v104.length])), (4, some (.box [.fn 41 [.box 0 0, .box 1 0, .box 3 0, .box 4 0]])), (24, some (.arr 22 1 (List.map (lD iD) v104))), (1008, some (.arr 3 1 (List.map iD g.2)))]⟩) (fun g : Int × List Int => assembly_All_1_l2 v1 v2 v103 v104 v105 g.1 g.2) _ (fun g y502 hx ih478 hr479 => ?_) (IntKind.i64.wrap (v103 + 1), (v128.set (v103).toNat 1)) hx
      obtain ⟨v141, v142⟩ := g
      unfold assembly_All_1_l2 at hx
      try dsimp only at hx ⊢
      refine Walk.seq (Walk.seq (Walk.region' rfl fun K hK => ?_))
      simp only [go_sem, seval, c423, a427, b428, c429]
      refine hK _ ?_
      clear hK K
      refine Walk.condO rfl hx (fun c480 hx => ?_) (fun c480 hx => ?_)
      · refine Walk.skip (Walk.seq (Walk.block (Walk.region' rfl fun K hK => ?_)))
        obtain ⟨v144, r481, a482, b483, c484, hx⟩ := rd_elim hx
        simp only [go_sem, seval, c423, a427, b428, c429, c480, a482, b483, c484]
        repeat refine And.intro (by first | omega | (simp; done) | (simp; omega)) ?_
        refine hK _ ?_
        clear hK K
        refine Walk.weaken ⟨[(0, .nils), (1, .box 0 0), (2, .box 1 0), (4, .box 4 0), (8, .d (.int .i64 v103)), (9, .arr 1008 0 (((v142.set (v141).toNat (-1))).length)), (10, .d (.int .i64 v141))], [(0, some (.box [.d (.sl (List.map iD v1)), .d (.sl (List.map Row.D v2))])), (1, some (.box [.arr 2 0 v105.length])), (2, some (.arr 3 1 (List.map iD v105))), (3, some (.box [.arr 24 0 v104.length])), (4, some (.box [.fn 41 [.box 0 0, .box 1 0, .box 3 0, .box 4 0]])), (24, some (.arr 22 1 (List.map (lD iD) v104))), (1008, some (.arr 3 1 (List.map iD ((v142.set (v141).toNat (-1))))))]⟩ (by simp [c423, a427, b428, c429, c480, a482, b483, c484] <;> omega) (by simp [c423, a427, b428, c429, c480, a482, b483, c484] <;> omega) ?_
        refine Walk.inBlock (Walk.region' rfl fun K hK => ?_)
        simp only [go_sem, seval, c423, a427, b428, c429, c480, a482, b483, c484]
        refine hK _ ?_
        clear hK K
        exact Walk.weaken _ (by simp [c423, a427, b428, c429, c480, a482, b483, c484] <;> omega) (by simp [c423, a427, b428, c429, c480, a482, b483, c484] <;> omega) (ih478 _ (cont_elim hx))
      refine Walk.exit rfl ?_
      obtain ⟨z485, e486, hx⟩ := exit_elim hx
      rw [hr479 z485 e486] at hx
      refine Walk.seq (Walk.seq (Walk.region' rfl fun K hK => ?_))
      obtain ⟨v146, h489, hx⟩ := bind_elim hx
      simp only [go_sem, seval, c423, a427, b428, c429, c480]
      refine VCl.lent rfl (by simp only [go_sem, seval, c423, a427, b428, c429, c480]; try simp) (blueprint_Dead_ok v1 v2 v142 _ h489) (by simp [c423, a427, b428, c429, c480]) (by simp [c423, a427, b428, c429, c480]) (by simp [c423, a427, b428, c429, c480]) (by simp [c423, a427, b428, c429, c480]) (by simp [c423, a427, b428, c429, c480]) (by simp [c423, a427, b428, c429, c480]) (by simp [c423, a427, b428, c429, c480]) ?_
      simp only [go_sem, seval, c423, a427, b428, c429, c480]
      refine hK _ ?_
      clear hK K
      refine Walk.condO rfl hx (fun c491 hx => ?_) (fun c491 hx => ?_)
      · refine Walk.exit rfl (Walk.region' rfl fun K hK => ?_)
        simp only [go_sem, seval, c423, a427, b428, c429, c480, c491]
        refine hK _ ?_
        clear hK K
        exact Walk.weaken _ (by simp [c423, a427, b428, c429, c480, c491] <;> omega) (by simp [c423, a427, b428, c429, c480, c491] <;> omega) (ih419 _ (cont_elim hx))
      refine Walk.skip (Walk.seq (Walk.region' rfl fun K hK => ?_))
      obtain ⟨v147, r492, a493, b494, c495, hx⟩ := rd_elim hx
      simp only [go_sem, seval, c423, a427, b428, c429, c480, c491, a493, b494, c495]
      repeat refine And.intro (by first | omega | (simp; done) | (simp; omega)) ?_
      refine hK _ ?_
      clear hK K
      refine Walk.weaken ⟨[(0, .nils), (1, .box 0 0), (2, .box 1 0), (4, .box 4 0), (8, .d (.int .i64 v103))], [(0, some (.box [.d (.sl (List.map iD v1)), .d (.sl (List.map Row.D v2))])), (1, some (.box [.arr 2 0 (((v105.set (v103).toNat 1)).length)])), (2, some (.arr 3 1 (List.map iD ((v105.set (v103).toNat 1))))), (3, some (.box [.arr 24 0 v104.length])), (4, some (.box [.fn 41 [.box 0 0, .box 1 0, .box 3 0, .box 4 0]])), (24, some (.arr 22 1 (List.map (lD iD) v104)))]⟩ (by simp [c423, a427, b428, c429, c480, c491, a493, b494, c495] <;> omega) (by simp [c423, a427, b428, c429, c480, c491, a493, b494, c495] <;> omega) ?_
      refine Walk.seq (Walk.drawn' rfl mixed fun K hK => ?_)
      obtain ⟨v148, h496, hx⟩ := bind_elim hx
      have w497 := ((((((((assembly_All_1_2_ok [v103] v1 v2 (v105.set (v103).toNat 1) v104 _ h496).swap 0 69).swap 1 0).swap 2 1).swap 3 2).swap 4 3).swap 5 24).swap 6 4)
      simp only [renE, renL, AV.ren, AV.rens, AObj.ren, swp, Option.map_some, reduceIte, Nat.reduceEqDiff] at w497
      simp only [go_sem, seval, c423, a427, b428, c429, c480, c491, a493, b494, c495]
      refine VCl.sub [(69, some (.arr 3 1 (List.map iD [v103]))), (0, some (.box [.d (.sl (List.map iD v1)), .d (.sl (List.map Row.D v2))])), (1, some (.box [.arr 2 0 (((v105.set (v103).toNat 1)).length)])), (2, some (.arr 3 1 (List.map iD ((v105.set (v103).toNat 1))))), (3, some (.box [.arr 24 0 v104.length])), (24, some (.arr 22 1 (List.map (lD iD) v104))), (4, some (.box [.fn 41 [.box 0 0, .box 1 0, .box 3 0, .box 4 0]]))] [] rfl (by simp only [go_sem, seval, AV.viewXs, AV.viewX, avD, c423, a427, b428, c429, c480, c491, a493, b494, c495]; try simp) (w497) (by simp [c423, a427, b428, c429, c480, c491, a493, b494, c495]) (by simp [c423, a427, b428, c429, c480, c491, a493, b494, c495]) (by simp [c423, a427, b428, c429, c480, c491, a493, b494, c495]) (by simp [c423, a427, b428, c429, c480, c491, a493, b494, c495]) (by simp [c423, a427, b428, c429, c480, c491, a493, b494, c495]) (by simp [c423, a427, b428, c429, c480, c491, a493, b494, c495]) (by simp [c423, a427, b428, c429, c480, c491, a493, b494, c495]) (by simp [c423, a427, b428, c429, c480, c491, a493, b494, c495]) (by simp [c423, a427, b428, c429, c480, c491, a493, b494, c495]) (by simp [c423, a427, b428, c429, c480, c491, a493, b494, c495]) ?_
      simp only [go_sem, seval, c423, a427, b428, c429, c480, c491, a493, b494, c495]
      refine hK _ _ (by kernel_rfl) (by simp [c423, a427, b428, c429, c480, c491, a493, b494, c495]) ?_
      clear hK K
      refine Walk.weaken ⟨[(0, .nils), (1, .box 0 0), (2, .box 1 0), (4, .box 4 0), (8, .d (.int .i64 v103))], [(0, some (.box [.d (.sl (List.map iD v1)), .d (.sl (List.map Row.D v2))])), (1, some (.box [.arr 2 0 v148.2.length])), (2, some (.arr 3 1 (List.map iD v148.2))), (3, some (.box [.arr 24 0 v148.1.length])), (4, some (.box [.fn 41 [.box 0 0, .box 1 0, .box 3 0, .box 4 0]])), (24, some (.arr 22 1 (List.map (lD iD) v148.1)))]⟩ (by simp [c423, a427, b428, c429, c480, c491, a493, b494, c495] <;> omega) (by simp [c423, a427, b428, c429, c480, c491, a493, b494, c495] <;> omega) ?_
      refine Walk.region' rfl fun K hK => ?_
      obtain ⟨v149, r498, a499, b500, c501, hx⟩ := rd_elim hx
      simp only [go_sem, seval, c423, a427, b428, c429, c480, c491, a493, b494, c495, a499, b500, c501]
      repeat refine And.intro (by first | omega | (simp; done) | (simp; omega)) ?_
      refine hK _ ?_
      clear hK K
      refine Walk.weaken ⟨[(0, .nils), (1, .box 0 0), (2, .box 1 0), (4, .box 4 0), (8, .d (.int .i64 v103))], [(0, some (.box [.d (.sl (List.map iD v1)), .d (.sl (List.map Row.D v2))])), (1, some (.box [.arr 2 0 (((v148.2.set (v103).toNat 0)).length)])), (2, some (.arr 3 1 (List.map iD ((v148.2.set (v103).toNat 0))))), (3, some (.box [.arr 24 0 v148.1.length])), (4, some (.box [.fn 41 [.box 0 0, .box 1 0, .box 3 0, .box 4 0]])), (24, some (.arr 22 1 (List.map (lD iD) v148.1)))]⟩ (by simp [c423, a427, b428, c429, c480, c491, a493, b494, c495, a499, b500, c501] <;> omega) (by simp [c423, a427, b428, c429, c480, c491, a493, b494, c495, a499, b500, c501] <;> omega) ?_
      refine Walk.inBlock (Walk.region' rfl fun K hK => ?_)
      simp only [go_sem, seval, c423, a427, b428, c429, c480, c491, a493, b494, c495, a499, b500, c501]
      refine hK _ ?_
      clear hK K
      exact Walk.weaken _ (by simp [c423, a427, b428, c429, c480, c491, a493, b494, c495, a499, b500, c501] <;> omega) (by simp [c423, a427, b428, c429, c480, c491, a493, b494, c495, a499, b500, c501] <;> omega) (ih419 _ (cont_elim hx))
    refine Walk.exit rfl ?_
    obtain ⟨z503, e504, hx⟩ := exit_elim hx
    rw [hr420 z503 e504] at hx
    refine Walk.inScope ?_
    refine Walk.weaken ⟨[], [(0, some (.box [.d (.sl (List.map iD v1)), .d (.sl (List.map Row.D v2))])), (1, some (.box [.arr 2 0 v105.length])), (2, some (.arr 3 1 (List.map iD v105))), (3, some (.box [.arr 24 0 v104.length])), (4, some (.box [.fn 41 [.box 0 0, .box 1 0, .box 3 0, .box 4 0]])), (24, some (.arr 22 1 (List.map (lD iD) v104)))]⟩ (by simp [c423] <;> omega) (by simp [c423] <;> omega) ?_
    refine Walk.rename 24 2000 (by omega) (by omega) (by simp) (by simp) ?_
    simp only [renE, renL, AV.ren, AV.rens, AObj.ren, swp, Option.map_some, reduceIte, Nat.reduceEqDiff]
    obtain rfl := Option.some.inj hx
    exact Walk.done ⟨by simp [c423], by simp [c423]⟩
  refine Walk.seq (Walk.region' rfl fun K hK => ?_)
  obtain ⟨v150, h506, hx⟩ := bind_elim hx
  simp only [go_sem, seval]
  refine VCl.lent rfl (by simp only [go_sem, seval]; try simp) (blueprint_Dead_ok v1 v2 v3 _ h506) (by simp) (by simp) (by simp) (by simp) (by simp) (by simp) (by simp) ?_
  simp only [go_sem, seval]
  refine hK _ ?_
  clear hK K
  refine Walk.condO rfl hx (fun c507 hx => ?_) (fun c507 hx => ?_)
  · refine Walk.drawn' rfl mixed fun K hK => ?_
    obtain ⟨v151, h508, hx⟩ := bind_elim hx
    have w509 := ((slices_Clone_int_ok [] _ h508).swap 2000 1009)
    simp only [renE, renL, AV.ren, AV.rens, AObj.ren, swp, Option.map_some, reduceIte, Nat.reduceEqDiff] at w509
    simp only [go_sem, seval, c507]
    refine VCl.pure rfl (by simp only [go_sem, seval, c507]; try simp) (w509) (by simp only [go_sem, seval, c507]; try simp) (by simp only [go_sem, seval, c507]; try simp) (by simp only [go_sem, seval, c507]; try simp) (by simp only [go_sem, seval, c507]; try simp) (by simp only [go_sem, seval, c507]; try simp) (by simp only [go_sem, seval, c507]; try simp) ?_
    simp only [go_sem, seval, c507]
    refine hK _ _ (by kernel_rfl) (by simp [c507]) ?_
    clear hK K
    refine Walk.weaken ⟨[(0, .nils), (1, .box 0 0), (2, .box 1 0), (4, .box 4 0)], [(0, some (.box [.d (.sl (List.map iD v1)), .d (.sl (List.map Row.D v2))])), (1, some (.box [.arr 2 0 v3.length])), (2, some (.arr 3 1 (List.map iD v3))), (3, some (.box [.arr 24 0 1])), (4, some (.box [.fn 41 [.box 0 0, .box 1 0, .box 3 0, .box 4 0]])), (24, some (.arr 22 1 (List.map (lD iD) [v151])))]⟩ (by simp [c507] <;> omega) (by simp [c507] <;> omega) ?_
    exact Walk.weaken _ (by simp [c507] <;> omega) (by simp [c507] <;> omega) (fin256 [v151] hx)
  refine Walk.skip ?_
  refine Walk.weaken ⟨[(0, .nils), (1, .box 0 0), (2, .box 1 0), (4, .box 4 0)], [(0, some (.box [.d (.sl (List.map iD v1)), .d (.sl (List.map Row.D v2))])), (1, some (.box [.arr 2 0 v3.length])), (2, some (.arr 3 1 (List.map iD v3))), (3, some (.box [.nils])), (4, some (.box [.fn 41 [.box 0 0, .box 1 0, .box 3 0, .box 4 0]]))]⟩ (by simp [c507] <;> omega) (by simp [c507] <;> omega) ?_
  refine Walk.up 24 22 1 [(0, .nils), (1, .box 0 0), (2, .box 1 0), (4, .box 4 0)] [(0, some (.box [.d (.sl (List.map iD v1)), .d (.sl (List.map Row.D v2))])), (1, some (.box [.arr 2 0 v3.length])), (2, some (.arr 3 1 (List.map iD v3))), (3, some (.box [.arr 24 0 0])), (4, some (.box [.fn 41 [.box 0 0, .box 1 0, .box 3 0, .box 4 0]]))] (by simp) (by simp) (by omega) (by simp) (by simp) (by simp) ?_
  exact Walk.weaken _ (by simp [c507] <;> omega) (by simp [c507] <;> omega) (fin256 [] hx)
noncomputable def assembly_All (v1 : List Int) (v2 : List Row) : Option (List (List Int) × Int) :=
  (blueprint_Valid v1 v2).bind fun v9 => bif !v9 then (some (([], 1) : List (List Int) × Int)) else (chk ((0 : Int) ≤ (v1.length : Int) ∧ (v1.length : Int) = (v1.length : Int) ∧ 8 * (v1.length : Int) ≤ 281474976710656 ∧ (v1.length : Int) ≤ 281474976710656) ((assembly_All_1 v1 v2 (List.replicate v1.length (0 : Int))).bind fun v10 => some ((v10.1, 0) : List (List Int) × Int)))
theorem assembly_All_ok (v1 : List Int) (v2 : List Row) (r : List (List Int) × Int) (hx : assembly_All v1 v2 = some r) :
    ACalls Try.prog 13 [.agg [.d (.sl (List.map iD v1)), .d (.sl (List.map Row.D v2))]] [] (.tup [.arr 2000 0 r.1.length, .d (.int .i64 r.2)]) [(2000, some (.arr 22 1 (List.map (lD iD) r.1)))] := by
  refine ACalls.of_sem (n := 18) 0 [2, 3] (fn := Try.f13) Try.func13 rfl rfl (.two rfl) rfl (by simp) (by intro i; simp only [hget]; (repeat' split) <;> simp <;> omega) ?_
  unfold assembly_All at hx
  refine Walk.seq (Walk.region' rfl fun K hK => ?_)
  simp only [go_sem, seval]
  refine hK _ ?_
  clear hK K
  refine Walk.seq (Walk.seq (Walk.region' rfl fun K hK => ?_))
  obtain ⟨v9, h11, hx⟩ := bind_elim hx
  simp only [go_sem, seval]
  refine VCl.pure rfl (by simp only [go_sem, seval]; try simp) (blueprint_Valid_ok v1 v2 _ h11) (by simp only [go_sem, seval]; try simp) (by simp only [go_sem, seval]; try simp) (by simp only [go_sem, seval]; try simp) (by simp only [go_sem, seval]; try simp) (by simp only [go_sem, seval]; try simp) (by simp only [go_sem, seval]; try simp) ?_
  simp only [go_sem, seval]
  refine hK _ ?_
  clear hK K
  refine Walk.condO rfl hx (fun c13 hx => ?_) (fun c13 hx => ?_)
  · refine Walk.seq (Walk.region' rfl fun K hK => ?_)
    simp only [go_sem, seval, c13]
    refine hK _ ?_
    clear hK K
    refine Walk.weaken ⟨[(2, .nils), (3, .d (.int .i64 1))], []⟩ (by simp [c13] <;> omega) (by simp [c13] <;> omega) ?_
    refine Walk.up 2000 22 1 [(2, .arr 2000 0 0), (3, .d (.int .i64 1))] [] (by simp) (by simp) (by omega) (by simp) (by simp) (by simp) ?_
    obtain rfl := Option.some.inj hx
    exact Walk.ret ⟨by simp [c13], by simp [c13]⟩
  refine Walk.skip (Walk.seq (Walk.region' rfl fun K hK => ?_))
  simp only [go_sem, seval, c13]
  refine hK _ ?_
  clear hK K
  refine Walk.seq (Walk.region' rfl fun K hK => ?_)
  obtain ⟨k14, hx⟩ := chk_elim hx
  simp only [go_sem, seval, c13, k14]
  repeat refine And.intro (by first | omega | (simp; done) | (simp; omega)) ?_
  refine hK _ ?_
  clear hK K
  refine Walk.weaken ⟨[(1, .box 1 0), (4, .box 4 0), (5, .box 5 0)], [(1, some (.box [.d (.sl (List.map iD v1)), .d (.sl (List.map Row.D v2))])), (4, some (.box [.nils])), (5, some (.box [.arr 13 0 (((List.replicate v1.length (0 : Int))).length)])), (13, some (.arr 3 1 (List.map iD ((List.replicate v1.length (0 : Int))))))]⟩ (by simp [c13, k14] <;> omega) (by simp [c13, k14] <;> omega) ?_
  refine Walk.seq (Walk.region' rfl fun K hK => ?_)
  simp only [go_sem, seval, c13, k14]
  refine hK _ ?_
  clear hK K
  refine Walk.seq (Walk.region' rfl fun K hK => ?_)
  simp only [go_sem, seval, c13, k14]
  refine hK _ ?_
  clear hK K
  refine Walk.seq (Walk.region' rfl fun K hK => ?_)
  obtain ⟨v10, h15, hx⟩ := bind_elim hx
  have w16 := (((((((assembly_All_1_ok v1 v2 (List.replicate v1.length (0 : Int)) _ h15).swap 0 1).swap 0 5).swap 2 13).swap 3 4).swap 3 6).swap 2000 1003)
  simp only [renE, renL, AV.ren, AV.rens, AObj.ren, swp, Option.map_some, reduceIte, Nat.reduceEqDiff] at w16
  simp only [go_sem, seval, c13, k14]
  refine VCl.subN [(1, some (.box [.d (.sl (List.map iD v1)), .d (.sl (List.map Row.D v2))])), (5, some (.box [.arr 13 0 (((List.replicate v1.length (0 : Int))).length)])), (13, some (.arr 3 1 (List.map iD ((List.replicate v1.length (0 : Int)))))), (4, some (.box [.nils])), (6, some (.box [.fn 41 [.box 1 0, .box 5 0, .box 4 0, .box 6 0]]))] [] rfl (by simp only [go_sem, seval, AV.viewXs, AV.viewX, avD, nlR, c13, k14]; try simp) (w16) (by simp [c13, k14]) (by simp [c13, k14]) (by simp [c13, k14]) (by simp [c13, k14]) (by simp [c13, k14]) (by simp [c13, k14]) (by simp [c13, k14]) (by simp [c13, k14]) (by simp [c13, k14]) (by simp [c13, k14]) ?_
  simp only [go_sem, seval, c13, k14]
  refine hK _ ?_
  clear hK K
  refine Walk.weaken ⟨[(4, .box 4 0)], [(4, some (.box [.arr 1003 0 v10.1.length])), (1003, some (.arr 22 1 (List.map (lD iD) v10.1)))]⟩ (by simp [c13, k14] <;> omega) (by simp [c13, k14] <;> omega) ?_
  refine Walk.seq (Walk.region' rfl fun K hK => ?_)
  simp only [go_sem, seval, c13, k14]
  refine hK _ ?_
  clear hK K
  refine Walk.weaken ⟨[(2, .arr 1003 0 v10.1.length), (3, .d (.int .i64 0))], [(1003, some (.arr 22 1 (List.map (lD iD) v10.1)))]⟩ (by simp [c13, k14] <;> omega) (by simp [c13, k14] <;> omega) ?_
  refine Walk.rename 1003 2000 (by omega) (by omega) (by simp) (by simp) ?_
  simp only [renE, renL, AV.ren, AV.rens, AObj.ren, swp, Option.map_some, reduceIte, Nat.reduceEqDiff]
  obtain rfl := Option.some.inj hx
  exact Walk.ret ⟨by simp [c13, k14], by simp [c13, k14]⟩
end Go.AX

