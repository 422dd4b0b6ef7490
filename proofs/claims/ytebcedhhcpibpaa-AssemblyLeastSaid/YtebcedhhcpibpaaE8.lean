import Derived.Test.YtebcedhhcpibpaaE7
set_option linter.unusedVariables false
set_option linter.unusedSimpArgs false
set_option maxRecDepth 20000
set_option maxHeartbeats 4000000
namespace Go.AX
open Go.Proofs
attribute [local simp] spl_len take_snoc take_cons_drop cons_rep cons_tail iA bA take_set_len idsL_rep idsL_iA idsL_bA idsL_sA idsL_set_mem idsL_sub sA_def List.map_replicate frVs_setS frVs_self frV_arr take_map_len subE subH eget hget upE upV upH upO_refl upO_box upVs freshE freshH freshO AV.ids AV.idsL ids_box ids_arr ids_pre idsL_room frE frV_refl frV_arr frH frO_refl frO_box frVs newOk evalA AV.viewXs AV.viewX AV.viewXP AV.viewXPs AV.viewPs AV.viewP AV.flat AV.flatL D.flat arrsOnly flatObjs newNames subOf closedIn allSome dstOk newOrOld avD avDp zv_i64 zv_u8 zv_bool zv_nils zv_nilp zv_str retAV aLoad cut TI.isAgg nlE nlH nlO_refl nlO_box nlVs nlV_refl nlV_nil iD uD bD tD lD List.map_set ti1 ti2 ti3 ti4 ti5 ti6 ti7 ti8 ti9 ti10 ti11 ti12 ti13 ti14 ti15 ti16 ti17 ti18 ti19 ti21 ti22 ti23 ti24 ti25 ti26 ti27 ti28 ti29 ti30 ti32 ti33 ti34 ti35 ti36 ti37 ti38 ti40 ti41 ti42 ti43 ti44 ti45 ti46 ti47 ti48 ti49 ti50 ti51 ti52 ti54 ti55 ti56 ti57 ti58 ti59 ti61 ti62 ti63 ti64 ti65 ti66 ti67 ti68 ti69 ti70 ti72 ti73 ti74 ti75 ti76 ti77 ti78 ti79 ti80 ti81 ti82 ti83 ti84 ti85 ti86 ti87 ti89 ti91 ti92 ti93 ti94 ti95 ti96 ti97 ti98 ti99 ti100 ti101 ti103 ti105 ti106 ti107 ti108 ti109 ti110 ti111 ti112 ti113 ti114 ti115 ti117 ti118 ti120 ti121 ti122 ti123 ti124 ti125 ti126 ti127 ti128 ti129 ti130 ti131 ti132 ti133 ti134 ti135 ti136 ti137 ti138 ti139 ti140 Row.D Node.D Part.D TItem.D Ref.D
attribute [local go_sem] V1_none V1_some V_nil V_move V_assign V_pick V_bin V_un V_extract V_makeFunc V_convert V_nilCheck V_fieldAddr V_field V_load V_store V_indexAddr V_index V_slice V_slice0 V_alloc V_box V_build V_buildSlice V_makeSlice V_len V_min V_max V_append V_copy V_call V_guard VGs_some VG_tt VG_ff VG_tf VG_ft VG_u gslot ok fail po so aNew dstOk freshU addLog_none' addLog_some' St.step putL evalA eget hget argE freshE freshO freshH AV.ids AV.idsL AV.ok1 AV.cells ids_box ids_arr liveBox liveArr isArr isObj isBoxB aPick isNilC aNilEq aBin aUn aExtract aMakeFunc aConvert aNilCheck aFieldAddr aField cut aLen aIndexAddr aMin aMax aIndex bnd isInt aSlice aSlice0 aLoad aAlloc aBox aStore splice aMake aMakeBox aCopy cellsOf cellsOfP updIds newIds zv_i64 zv_u8 zv_bool zv_nils zv_nilp cond_bool cond_int TI.isAgg TK.isSl TK.el okL avDps avDp avD List.map_cons List.map_nil List.append_nil List.nil_append List.cons_append List.length_cons List.length_nil List.take_succ_cons List.take_zero List.drop_succ_cons List.drop_zero List.take_nil List.drop_nil List.headD_cons List.getD_cons_zero List.getD_cons_succ List.mem_cons List.not_mem_nil List.getElem?_cons_zero List.getElem?_cons_succ List.toList_toArray Option.getD_some Option.getD_none Option.bind_some Option.bind_none Option.map_some Option.map_none Option.getD Option.toList Nat.zero_add Nat.add_zero Nat.zero_le Nat.le_refl if_true if_false ite_self true_and and_true false_and and_false true_or or_true false_or or_false not_true_eq_false not_false_eq_true ne_eq cond_true cond_false Bool.true_eq_false Bool.false_eq_true forall_const decide_true decide_false implies_true true_implies and_self or_self Nat.succ_ne_zero Int.toNat_natCast Int.natCast_nonneg List.length_map decide_eq_true_eq AV.views AV.view AV.viewPs AV.viewP arrsOnly newNames List.length_append List.append_assoc Bool.not_true Bool.not_false AV.ok2 aBuild fillR fillP aBuildSlice dense elP aAppend esOf esOfP List.forall_mem_cons forall_eq_or_imp forall_eq zD zDp map_take' map_drop' iD uD bD tD lD iD_len uD_len bD_len tD_len lD_len LB Int.cast_ofNat_Int Int.natCast_zero Int.natCast_one head_len all_len List.head?_cons List.head?_nil Bool.not_not eq_self List.take_length zv_str aConv byteOf isByte map_bcell bytes_all str_map cellsEq cellsP AV.kd Bool.and_true Bool.true_and Bool.and_false Bool.false_and spl_map spl_len mkbox_i mkbox_b flat_iD dataL_iA dataL_bA zv_u64 flat_iD' flat_len dataL_tA dataL_ttA spl_mt spl_mtt mkbox_s splice_one take_cons_drop cons_rep cons_tail hd_set hd_set0 List.length_replicate iA bA sA_def List.set_set List.length_set idsL_iA idsL_bA idsL_sA idsL_setE idsL_rep List.append_eq Nat.mul_one ids_pre idsL_room appBox_full appBox_room pre_iA one_iD List.flatten_cons List.flatten_nil ti1 ti2 ti3 ti4 ti5 ti6 ti7 ti8 ti9 ti10 ti11 ti12 ti13 ti14 ti15 ti16 ti17 ti18 ti19 ti21 ti22 ti23 ti24 ti25 ti26 ti27 ti28 ti29 ti30 ti32 ti33 ti34 ti35 ti36 ti37 ti38 ti40 ti41 ti42 ti43 ti44 ti45 ti46 ti47 ti48 ti49 ti50 ti51 ti52 ti54 ti55 ti56 ti57 ti58 ti59 ti61 ti62 ti63 ti64 ti65 ti66 ti67 ti68 ti69 ti70 ti72 ti73 ti74 ti75 ti76 ti77 ti78 ti79 ti80 ti81 ti82 ti83 ti84 ti85 ti86 ti87 ti89 ti91 ti92 ti93 ti94 ti95 ti96 ti97 ti98 ti99 ti100 ti101 ti103 ti105 ti106 ti107 ti108 ti109 ti110 ti111 ti112 ti113 ti114 ti115 ti117 ti118 ti120 ti121 ti122 ti123 ti124 ti125 ti126 ti127 ti128 ti129 ti130 ti131 ti132 ti133 ti134 ti135 ti136 ti137 ti138 ti139 ti140 Row.D Node.D Part.D TItem.D Ref.D Row.D_len Node.D_len Part.D_len TItem.D_len Ref.D_len zs_ zs_48_49_50_51_52_53_54_55_56_57_48_49_50_51_52_53_54_55_56_57_48_49_50_51_52_53_54_55_56_57_48_49_50_51_52_53_54_55_56_57_120 zs_113 zs_116_97_98_9 eqf74_00
noncomputable def optimality_bound_l2 (v3 : List Int) (v1 : List Int) (v51 : List Int) (v10 : Int) (v9 : Int) (v80 : Int) (v81 : Int) : Option ((Int × Int) ⊕ (Int)) :=
  bif decide (v81 < (v3.length : Int)) then ((rd v3 v81).bind fun v85 => (rd v1 v81).bind fun v86 => (rd v51 v81).bind fun v87 => bif decide (v85 = 1) then (contO ((IntKind.i64.wrap (v80 + (IntKind.i64.wrap ((IntKind.i64.wrap (v10 * v86)) - (IntKind.i64.wrap (v9 * v87))))), IntKind.i64.wrap (v81 + 1)) : Int × Int)) else (bif decide (v85 = (-1)) then (contO ((IntKind.i64.wrap (v80 + ((min (IntKind.i64.wrap ((IntKind.i64.wrap (v10 * v86)) - (IntKind.i64.wrap (v9 * v87)))) 0))), IntKind.i64.wrap (v81 + 1)) : Int × Int)) else (contO ((v80, IntKind.i64.wrap (v81 + 1)) : Int × Int)))) else (exitO (chk (¬ v10 = 0) (chk (¬ v10 = 0) (bif decide ((v80.tmod v10) > 0) then (some (IntKind.i64.wrap ((IntKind.i64.wrap (v80.tdiv v10)) + 1) : Int)) else (some (IntKind.i64.wrap (v80.tdiv v10) : Int))))))
noncomputable def optimality_bound_j1 (v3 : List Int) (v1 : List Int) (v51 : List Int) (v10 : Int) (v9 : Int) (v54 : Int) : Option (Int) :=
  iter (fun g : Int × Int => optimality_bound_l2 v3 v1 v51 v10 v9 g.1 g.2) (v54, 0)
noncomputable def optimality_bound_j0 (v9 : Int) (v3 : List Int) (v1 : List Int) (v10 : Int) (v51 : List Int) (v52 : Int) (v53 : Int) : Option (Int) :=
  bif decide (v9 < 0) then (optimality_bound_j1 v3 v1 v51 v10 v9 (IntKind.i64.wrap (v9 * v53))) else (optimality_bound_j1 v3 v1 v51 v10 v9 (IntKind.i64.wrap (v9 * v52)))
noncomputable def optimality_bound (v1 : List Int) (v2 : List Row) (v3 : List Int) (v4 : Int) (v5 : Int) (v6 : Int) (v7 : Int) (v8 : Int) (v9 : Int) (v10 : Int) : Option (Int) :=
  chk ((0 : Int) ≤ (v1.length : Int) ∧ (v1.length : Int) = (v1.length : Int) ∧ 8 * (v1.length : Int) ≤ 281474976710656 ∧ (v1.length : Int) ≤ 281474976710656) (bif decide (v8 ≥ 0) then ((rd v2 v8).bind fun v88 => optimality_bound_j0 v9 v3 v1 v10 v88.Coefs v88.Least v88.Most) else (optimality_bound_j0 v9 v3 v1 v10 (List.replicate v1.length (0 : Int)) 0 0))
theorem optimality_bound_ok (v1 : List Int) (v2 : List Row) (v3 : List Int) (v4 : Int) (v5 : Int) (v6 : Int) (v7 : Int) (v8 : Int) (v9 : Int) (v10 : Int) (r : Int) (hx : optimality_bound v1 v2 v3 v4 v5 v6 v7 v8 v9 v10 = some r) :
    ACalls Try.prog 69 [.agg [.d (.sl (List.map iD v1)), .d (.sl (List.map Row.D v2))], .d (.sl (List.map iD v3)), .agg [.d (.int .i64 v4), .d (.int .i64 v5), .d (.int .i64 v6), .d (.int .i64 v7), .d (.int .i64 v8), .d (.int .i64 v9), .d (.int .i64 v10)]] [] (.d (.int .i64 r)) [] := by
  refine ACalls.of_sem (n := 89) 0 [6] (fn := Try.f69) Try.func69 rfl rfl (.one rfl) rfl (by simp) (by intro i; simp only [hget]; (repeat' split) <;> simp <;> omega) ?_
  unfold optimality_bound at hx
  refine Walk.seq (Walk.region' rfl fun K hK => ?_)
  simp only [go_sem, seval]
  refine hK _ ?_
  clear hK K
  refine Walk.seq (Walk.region' rfl fun K hK => ?_)
  obtain ⟨k167, hx⟩ := chk_elim hx
  simp only [go_sem, seval, k167]
  repeat refine And.intro (by first | omega | (simp; done) | (simp; omega)) ?_
  refine hK _ ?_
  clear hK K
  refine Walk.weaken ⟨[(1, .d (.sl (List.map iD v3))), (3, .box 3 0), (5, .box 5 0), (7, .box 7 0)], [(3, some (.box [.d (.sl (List.map iD v1)), .d (.sl (List.map Row.D v2))])), (5, some (.box [.d (.int .i64 v4), .d (.int .i64 v5), .d (.int .i64 v6), .d (.int .i64 v7), .d (.int .i64 v8), .d (.int .i64 v9), .d (.int .i64 v10)])), (7, some (.box [.arr 16 0 (((List.replicate v1.length (0 : Int))).length), .d (.int .i64 0), .d (.int .i64 0)])), (16, some (.arr 3 1 (List.map iD ((List.replicate v1.length (0 : Int))))))]⟩ (by simp [k167] <;> omega) (by simp [k167] <;> omega) ?_
  refine Walk.seq (Walk.join (G := List Int × Int × Int) (fun g => ⟨[(1, .d (.sl (List.map iD v3))), (3, .box 3 0), (5, .box 5 0), (7, .box 7 0)], [(3, some (.box [.d (.sl (List.map iD v1)), .d (.sl (List.map Row.D v2))])), (5, some (.box [.d (.int .i64 v4), .d (.int .i64 v5), .d (.int .i64 v6), .d (.int .i64 v7), .d (.int .i64 v8), .d (.int .i64 v9), .d (.int .i64 v10)])), (7, some (.box [.d (.sl (List.map iD g.1)), .d (.int .i64 g.2.1), .d (.int .i64 g.2.2)]))]⟩) (fun g => optimality_bound_j0 v9 v3 v1 v10 g.1 g.2.1 g.2.2) hx (fun g hx => ?_) (fun fin173 => ?_))
  · obtain ⟨v51, v52, v53⟩ := g
    unfold optimality_bound_j0 at hx
    try dsimp only at hx ⊢
    refine Walk.seq (Walk.region' rfl fun K hK => ?_)
    simp only [go_sem, seval, k167]
    refine hK _ ?_
    clear hK K
    refine Walk.seq (Walk.join (G := Int) (fun g => ⟨[(1, .d (.sl (List.map iD v3))), (3, .box 3 0), (5, .box 5 0), (7, .box 7 0), (8, .d (.int .i64 g))], [(3, some (.box [.d (.sl (List.map iD v1)), .d (.sl (List.map Row.D v2))])), (5, some (.box [.d (.int .i64 v4), .d (.int .i64 v5), .d (.int .i64 v6), .d (.int .i64 v7), .d (.int .i64 v8), .d (.int .i64 v9), .d (.int .i64 v10)])), (7, some (.box [.d (.sl (List.map iD v51)), .d (.int .i64 v52), .d (.int .i64 v53)]))]⟩) (fun g => optimality_bound_j1 v3 v1 v51 v10 v9 g) hx (fun v54 hx => ?_) (fun fin175 => ?_))
    · unfold optimality_bound_j1 at hx
      try dsimp only at hx ⊢
      refine Walk.seq (Walk.seq (Walk.region' rfl fun K hK => ?_))
      simp only [go_sem, seval, k167]
      refine hK _ ?_
      clear hK K
      refine Walk.block (Walk.loop ?_)
      refine Walk.weaken ⟨[(3, .box 3 0), (5, .box 5 0), (7, .box 7 0), (8, .d (.int .i64 v54)), (40, .d (.sl (List.map iD v3))), (41, .d (.int .i64 (v3.length : Int))), (42, .d (.int .i64 0))], [(3, some (.box [.d (.sl (List.map iD v1)), .d (.sl (List.map Row.D v2))])), (5, some (.box [.d (.int .i64 v4), .d (.int .i64 v5), .d (.int .i64 v6), .d (.int .i64 v7), .d (.int .i64 v8), .d (.int .i64 v9), .d (.int .i64 v10)])), (7, some (.box [.d (.sl (List.map iD v51)), .d (.int .i64 v52), .d (.int .i64 v53)]))]⟩ (by simp [k167] <;> omega) (by simp [k167] <;> omega) ?_
      refine Walk.iter (σ := Int × Int) (fun g => ⟨[(3, .box 3 0), (5, .box 5 0), (7, .box 7 0), (8, .d (.int .i64 g.1)), (40, .d (.sl (List.map iD v3))), (41, .d (.int .i64 (v3.length : Int))), (42, .d (.int .i64 g.2))], [(3, some (.box [.d (.sl (List.map iD v1)), .d (.sl (List.map Row.D v2))])), (5, some (.box [.d (.int .i64 v4), .d (.int .i64 v5), .d (.int .i64 v6), .d (.int .i64 v7), .d (.int .i64 v8), .d (.int .i64 v9), .d (.int .i64 v10)])), (7, some (.box [.d (.sl (List.map iD v51)), .d (.int .i64 v52), .d (.int .i64 v53)]))]⟩) (fun g : Int × Int => optimality_bound_l2 v3 v1 v51 v10 v9 g.1 g.2) _ (fun g y335 hx ih312 hr313 => ?_) (v54, 0) hx
      obtain ⟨v80, v81⟩ := g
      unfold optimality_bound_l2 at hx
      try dsimp only at hx ⊢
      refine Walk.seq (Walk.region' rfl fun K hK => ?_)
      simp only [go_sem, seval, k167]
      refine hK _ ?_
      clear hK K
      refine Walk.seq (Walk.condO rfl hx (fun c315 hx => ?_) (fun c315 hx => ?_))
      · refine Walk.skip (Walk.seq (Walk.block (Walk.seq (Walk.region' rfl fun K hK => ?_))))
        obtain ⟨v85, r316, a317, b318, c319, hx⟩ := rd_elim hx
        simp only [go_sem, seval, k167, c315, a317, b318, c319]
        repeat refine And.intro (by first | omega | (simp; done) | (simp; omega)) ?_
        refine hK _ ?_
        clear hK K
        refine Walk.seq (Walk.drawn' rfl mixed fun K hK => ?_)
        obtain ⟨v86, r320, a321, b322, c323, hx⟩ := rd_elim hx
        obtain ⟨v87, r324, a325, b326, c327, hx⟩ := rd_elim hx
        simp only [go_sem, seval, k167, c315, a317, b318, c319, a321, b322, c323, a325, b326, c327]
        repeat refine And.intro (by first | omega | (simp; done) | (simp; omega)) ?_
        refine hK _ _ (by kernel_rfl) (by simp [k167, c315, a317, b318, c319, a321, b322, c323, a325, b326, c327]) ?_
        clear hK K
        refine Walk.seq (Walk.region' rfl fun K hK => ?_)
        simp only [go_sem, seval, k167, c315, a317, b318, c319, a321, b322, c323, a325, b326, c327]
        refine hK _ ?_
        clear hK K
        refine Walk.block (Walk.seq (Walk.region' rfl fun K hK => ?_))
        simp only [go_sem, seval, k167, c315, a317, b318, c319, a321, b322, c323, a325, b326, c327]
        refine hK _ ?_
        clear hK K
        refine Walk.condO rfl hx (fun c328 hx => ?_) (fun c328 hx => ?_)
        · refine Walk.region' rfl fun K hK => ?_
          simp only [go_sem, seval, k167, c315, a317, b318, c319, a321, b322, c323, a325, b326, c327, c328]
          refine hK _ ?_
          clear hK K
          refine Walk.inBlock (Walk.inBlock (Walk.region' rfl fun K hK => ?_))
          simp only [go_sem, seval, k167, c315, a317, b318, c319, a321, b322, c323, a325, b326, c327, c328]
          refine hK _ ?_
          clear hK K
          exact Walk.weaken _ (by simp [k167, c315, a317, b318, c319, a321, b322, c323, a325, b326, c327, c328] <;> omega) (by simp [k167, c315, a317, b318, c319, a321, b322, c323, a325, b326, c327, c328] <;> omega) (ih312 _ (cont_elim hx))
        refine Walk.seq (Walk.region' rfl fun K hK => ?_)
        simp only [go_sem, seval, k167, c315, a317, b318, c319, a321, b322, c323, a325, b326, c327, c328]
        refine hK _ ?_
        clear hK K
        refine Walk.condO rfl hx (fun c329 hx => ?_) (fun c329 hx => ?_)
        · refine Walk.region' rfl fun K hK => ?_
          simp only [go_sem, seval, k167, c315, a317, b318, c319, a321, b322, c323, a325, b326, c327, c328, c329]
          refine hK _ ?_
          clear hK K
          refine Walk.inBlock (Walk.inBlock (Walk.region' rfl fun K hK => ?_))
          simp only [go_sem, seval, k167, c315, a317, b318, c319, a321, b322, c323, a325, b326, c327, c328, c329]
          refine hK _ ?_
          clear hK K
          exact Walk.weaken _ (by simp [k167, c315, a317, b318, c319, a321, b322, c323, a325, b326, c327, c328, c329] <;> omega) (by simp [k167, c315, a317, b318, c319, a321, b322, c323, a325, b326, c327, c328, c329] <;> omega) (ih312 _ (cont_elim hx))
        refine Walk.skip (Walk.inBlock (Walk.inBlock (Walk.region' rfl fun K hK => ?_)))
        simp only [go_sem, seval, k167, c315, a317, b318, c319, a321, b322, c323, a325, b326, c327, c328, c329]
        refine hK _ ?_
        clear hK K
        exact Walk.weaken _ (by simp [k167, c315, a317, b318, c319, a321, b322, c323, a325, b326, c327, c328, c329] <;> omega) (by simp [k167, c315, a317, b318, c319, a321, b322, c323, a325, b326, c327, c328, c329] <;> omega) (ih312 _ (cont_elim hx))
      refine Walk.exit rfl ?_
      obtain ⟨z330, e331, hx⟩ := exit_elim hx
      rw [hr313 z330 e331] at hx
      refine Walk.seq (Walk.region' rfl fun K hK => ?_)
      obtain ⟨k332, hx⟩ := chk_elim hx
      simp only [go_sem, seval, k167, c315, k332]
      repeat refine And.intro (by first | omega | (simp; done) | (simp; omega)) ?_
      refine hK _ ?_
      clear hK K
      refine Walk.seq (Walk.seq (Walk.region' rfl fun K hK => ?_))
      obtain ⟨k333, hx⟩ := chk_elim hx
      simp only [go_sem, seval, k167, c315, k332, k333]
      repeat refine And.intro (by first | omega | (simp; done) | (simp; omega)) ?_
      refine hK _ ?_
      clear hK K
      refine Walk.condO rfl hx (fun c334 hx => ?_) (fun c334 hx => ?_)
      · refine Walk.region' rfl fun K hK => ?_
        simp only [go_sem, seval, k167, c315, k332, k333, c334]
        refine hK _ ?_
        clear hK K
        refine Walk.seq (Walk.region' rfl fun K hK => ?_)
        simp only [go_sem, seval, k167, c315, k332, k333, c334]
        refine hK _ ?_
        clear hK K
        obtain rfl := Option.some.inj hx
        exact Walk.ret ⟨by simp [k167, c315, k332, k333, c334], by simp [k167, c315, k332, k333, c334]⟩
      refine Walk.skip (Walk.seq (Walk.region' rfl fun K hK => ?_))
      simp only [go_sem, seval, k167, c315, k332, k333, c334]
      refine hK _ ?_
      clear hK K
      obtain rfl := Option.some.inj hx
      exact Walk.ret ⟨by simp [k167, c315, k332, k333, c334], by simp [k167, c315, k332, k333, c334]⟩
    refine Walk.seq (Walk.region' rfl fun K hK => ?_)
    simp only [go_sem, seval, k167]
    refine hK _ ?_
    clear hK K
    refine Walk.condO rfl hx (fun c336 hx => ?_) (fun c336 hx => ?_)
    · refine Walk.region' rfl fun K hK => ?_
      simp only [go_sem, seval, k167, c336]
      refine hK _ ?_
      clear hK K
      exact Walk.weaken _ (by simp [k167, c336] <;> omega) (by simp [k167, c336] <;> omega) (fin175 (IntKind.i64.wrap (v9 * v53)) hx)
    refine Walk.skip ?_
    exact Walk.weaken _ (by simp [k167, c336] <;> omega) (by simp [k167, c336] <;> omega) (fin175 (IntKind.i64.wrap (v9 * v52)) hx)
  refine Walk.seq (Walk.region' rfl fun K hK => ?_)
  simp only [go_sem, seval, k167]
  refine hK _ ?_
  clear hK K
  refine Walk.condO rfl hx (fun c337 hx => ?_) (fun c337 hx => ?_)
  · refine Walk.region' rfl fun K hK => ?_
    obtain ⟨v88, r338, a339, b340, c341, hx⟩ := rd_elim hx
    simp only [go_sem, seval, k167, c337, a339, b340, c341]
    repeat refine And.intro (by first | omega | (simp; done) | (simp; omega)) ?_
    refine hK _ ?_
    clear hK K
    exact Walk.weaken _ (by simp [k167, c337, a339, b340, c341] <;> omega) (by simp [k167, c337, a339, b340, c341] <;> omega) (fin173 (v88.Coefs, v88.Least, v88.Most) hx)
  refine Walk.skip ?_
  refine Walk.weaken ⟨[(1, .d (.sl (List.map iD v3))), (3, .box 3 0), (5, .box 5 0), (7, .box 7 0)], [(3, some (.box [.d (.sl (List.map iD v1)), .d (.sl (List.map Row.D v2))])), (5, some (.box [.d (.int .i64 v4), .d (.int .i64 v5), .d (.int .i64 v6), .d (.int .i64 v7), .d (.int .i64 v8), .d (.int .i64 v9), .d (.int .i64 v10)])), (7, some (.box [.arr 16 0 (((List.replicate v1.length (0 : Int))).length), .d (.int .i64 0), .d (.int .i64 0)])), (16, some (.arr 3 1 (List.map iD ((List.replicate v1.length (0 : Int))))))]⟩ (by simp [k167, c337] <;> omega) (by simp [k167, c337] <;> omega) ?_
  refine Walk.freeze 16 3 1 (List.map iD ((List.replicate v1.length (0 : Int)))) [(1, .d (.sl (List.map iD v3))), (3, .box 3 0), (5, .box 5 0), (7, .box 7 0)] [(3, some (.box [.d (.sl (List.map iD v1)), .d (.sl (List.map Row.D v2))])), (5, some (.box [.d (.int .i64 v4), .d (.int .i64 v5), .d (.int .i64 v6), .d (.int .i64 v7), .d (.int .i64 v8), .d (.int .i64 v9), .d (.int .i64 v10)])), (7, some (.box [.d (.sl (List.map iD ((List.replicate v1.length (0 : Int))))), .d (.int .i64 0), .d (.int .i64 0)]))] (by simp) (by simp) (by simp) ?_
  exact Walk.weaken _ (by simp [k167, c337] <;> omega) (by simp [k167, c337] <;> omega) (fin173 ((List.replicate v1.length (0 : Int)), 0, 0) hx)
noncomputable def optimality_Proved_l0 (v3 : List Node) (v2 : List Row) (v29 : List (List Int) × Int) (v1 : List Int) (v36 : Int) (v37 : Bool) (v38 : Int) : Option ((Int × Bool × Int) ⊕ (Int × Bool × Int)) :=
  bif decide (v38 < (v3.length : Int)) then ((rd v3 v38).bind fun v45 => bif decide (v45.Kind = 2) then ((rd v2 v45.Row).bind fun v46 => (rd v29.1 v38).bind fun v47 => (blueprint_Span v46.Coefs v46.Least v46.Most v47).bind fun v48 => bif decide (v48.1 ≤ v46.Most) then (bif decide (v48.2.1 ≥ v46.Least) then (bif decide (v46.Least ≤ v46.Most) then (exitO (some ((0, false, 29) : Int × Bool × Int))) else (contO ((v36, v37, IntKind.i64.wrap (v38 + 1)) : Int × Bool × Int))) else (contO ((v36, v37, IntKind.i64.wrap (v38 + 1)) : Int × Bool × Int))) else (contO ((v36, v37, IntKind.i64.wrap (v38 + 1)) : Int × Bool × Int))) else (bif decide (v45.Kind = 3) then ((rd v29.1 v38).bind fun v49 => (optimality_bound v1 v2 v49 v45.Kind v45.Var v45.Zero v45.One v45.Row v45.Num v45.Den).bind fun v50 => bif !v37 then (contO ((v50, true, IntKind.i64.wrap (v38 + 1)) : Int × Bool × Int)) else (bif decide (v50 < v36) then (contO ((v50, true, IntKind.i64.wrap (v38 + 1)) : Int × Bool × Int)) else (contO ((v36, v37, IntKind.i64.wrap (v38 + 1)) : Int × Bool × Int)))) else (contO ((v36, v37, IntKind.i64.wrap (v38 + 1)) : Int × Bool × Int)))) else (exitO (some ((v36, v37, 0) : Int × Bool × Int)))
noncomputable def optimality_Proved (v1 : List Int) (v2 : List Row) (v3 : List Node) : Option (Int × Bool × Int) :=
  (optimality_States v1 v2 v3).bind fun v29 => bif decide (¬ v29.2 = 0) then (some ((0, false, v29.2) : Int × Bool × Int)) else (iter (fun g : Int × Bool × Int => optimality_Proved_l0 v3 v2 v29 v1 g.1 g.2.1 g.2.2) (0, false, 0))
theorem optimality_Proved_ok (v1 : List Int) (v2 : List Row) (v3 : List Node) (r : Int × Bool × Int) (hx : optimality_Proved v1 v2 v3 = some r) :
    ACalls Try.prog 51 [.agg [.d (.sl (List.map iD v1)), .d (.sl (List.map Row.D v2))], .d (.sl (List.map Node.D v3))] [] (.tup [.d (.int .i64 r.1), .d (.bool r.2.1), .d (.int .i64 r.2.2)]) [] := by
  refine ACalls.of_sem (n := 88) 0 [4, 5, 6] (fn := Try.f51) Try.func51 rfl rfl (.three rfl) rfl (by simp) (by intro i; simp only [hget]; (repeat' split) <;> simp <;> omega) ?_
  unfold optimality_Proved at hx
  refine Walk.seq (Walk.region' rfl fun K hK => ?_)
  simp only [go_sem, seval]
  refine hK _ ?_
  clear hK K
  refine Walk.seq (Walk.region' rfl fun K hK => ?_)
  obtain ⟨v29, h88, hx⟩ := bind_elim hx
  simp only [go_sem, seval]
  refine VCl.pure rfl (by simp only [go_sem, seval]; try simp) (optimality_States_ok v1 v2 v3 _ h88) (by simp only [go_sem, seval]; try simp) (by simp only [go_sem, seval]; try simp) (by simp only [go_sem, seval]; try simp) (by simp only [go_sem, seval]; try simp) (by simp only [go_sem, seval]; try simp) (by simp only [go_sem, seval]; try simp) ?_
  simp only [go_sem, seval]
  refine hK _ ?_
  clear hK K
  refine Walk.seq (Walk.seq (Walk.region' rfl fun K hK => ?_))
  simp only [go_sem, seval]
  refine hK _ ?_
  clear hK K
  refine Walk.condO rfl hx (fun c91 hx => ?_) (fun c91 hx => ?_)
  · refine Walk.seq (Walk.region' rfl fun K hK => ?_)
    simp only [go_sem, seval, c91]
    refine hK _ ?_
    clear hK K
    obtain rfl := Option.some.inj hx
    exact Walk.ret ⟨by simp [c91], by simp [c91]⟩
  refine Walk.skip (Walk.seq (Walk.seq (Walk.region' rfl fun K hK => ?_)))
  simp only [go_sem, seval, c91]
  refine hK _ ?_
  clear hK K
  refine Walk.block (Walk.loop ?_)
  refine Walk.weaken ⟨[(2, .box 2 0), (4, .d (.int .i64 0)), (5, .d (.bool false)), (7, .d (.sl (List.map (lD iD) v29.1))), (24, .d (.sl (List.map Node.D v3))), (25, .d (.int .i64 (v3.length : Int))), (26, .d (.int .i64 0))], [(2, some (.box [.d (.sl (List.map iD v1)), .d (.sl (List.map Row.D v2))]))]⟩ (by simp [c91] <;> omega) (by simp [c91] <;> omega) ?_
  refine Walk.iter (σ := Int × Bool × Int) (fun g => ⟨[(2, .box 2 0), (4, .d (.int .i64 g.1)), (5, .d (.bool g.2.1)), (7, .d (.sl (List.map (lD iD) v29.1))), (24, .d (.sl (List.map Node.D v3))), (25, .d (.int .i64 (v3.length : Int))), (26, .d (.int .i64 g.2.2))], [(2, some (.box [.d (.sl (List.map iD v1)), .d (.sl (List.map Row.D v2))]))]⟩) (fun g : Int × Bool × Int => optimality_Proved_l0 v3 v2 v29 v1 g.1 g.2.1 g.2.2) _ (fun g y177 hx ih144 hr145 => ?_) (0, false, 0) hx
  obtain ⟨v36, v37, v38⟩ := g
  unfold optimality_Proved_l0 at hx
  try dsimp only at hx ⊢
  refine Walk.seq (Walk.region' rfl fun K hK => ?_)
  simp only [go_sem, seval, c91]
  refine hK _ ?_
  clear hK K
  refine Walk.seq (Walk.condO rfl hx (fun c147 hx => ?_) (fun c147 hx => ?_))
  · refine Walk.skip (Walk.seq (Walk.block (Walk.seq (Walk.region' rfl fun K hK => ?_))))
    obtain ⟨v45, r148, a149, b150, c151, hx⟩ := rd_elim hx
    simp only [go_sem, seval, c91, c147, a149, b150, c151]
    repeat refine And.intro (by first | omega | (simp; done) | (simp; omega)) ?_
    refine hK _ ?_
    clear hK K
    refine Walk.seq (Walk.region' rfl fun K hK => ?_)
    simp only [go_sem, seval, c91, c147, a149, b150, c151]
    refine hK _ ?_
    clear hK K
    refine Walk.block (Walk.seq (Walk.region' rfl fun K hK => ?_))
    simp only [go_sem, seval, c91, c147, a149, b150, c151]
    refine hK _ ?_
    clear hK K
    refine Walk.condO rfl hx (fun c152 hx => ?_) (fun c152 hx => ?_)
    · refine Walk.seq (Walk.region' rfl fun K hK => ?_)
      obtain ⟨v46, r153, a154, b155, c156, hx⟩ := rd_elim hx
      simp only [go_sem, seval, c91, c147, a149, b150, c151, c152, a154, b155, c156]
      repeat refine And.intro (by first | omega | (simp; done) | (simp; omega)) ?_
      refine hK _ ?_
      clear hK K
      refine Walk.seq (Walk.drawn' rfl mixed fun K hK => ?_)
      obtain ⟨v47, r157, a158, b159, c160, hx⟩ := rd_elim hx
      obtain ⟨v48, h161, hx⟩ := bind_elim hx
      simp only [go_sem, seval, c91, c147, a149, b150, c151, c152, a154, b155, c156, a158, b159, c160]
      repeat refine And.intro (by first | omega | (simp; done) | (simp; omega)) ?_
      refine VCl.pure rfl (by simp only [go_sem, seval, c91, c147, a149, b150, c151, c152, a154, b155, c156, a158, b159, c160]; try simp) (blueprint_Span_ok v46.Coefs v46.Least v46.Most v47 _ h161) (by simp only [go_sem, seval, c91, c147, a149, b150, c151, c152, a154, b155, c156, a158, b159, c160]; try simp) (by simp only [go_sem, seval, c91, c147, a149, b150, c151, c152, a154, b155, c156, a158, b159, c160]; try simp) (by simp only [go_sem, seval, c91, c147, a149, b150, c151, c152, a154, b155, c156, a158, b159, c160]; try simp) (by simp only [go_sem, seval, c91, c147, a149, b150, c151, c152, a154, b155, c156, a158, b159, c160]; try simp) (by simp only [go_sem, seval, c91, c147, a149, b150, c151, c152, a154, b155, c156, a158, b159, c160]; try simp) (by simp only [go_sem, seval, c91, c147, a149, b150, c151, c152, a154, b155, c156, a158, b159, c160]; try simp) ?_
      simp only [go_sem, seval, c91, c147, a149, b150, c151, c152, a154, b155, c156, a158, b159, c160]
      refine hK _ _ (by kernel_rfl) (by simp [c91, c147, a149, b150, c151, c152, a154, b155, c156, a158, b159, c160]) ?_
      clear hK K
      refine Walk.seq (Walk.region' rfl fun K hK => ?_)
      simp only [go_sem, seval, c91, c147, a149, b150, c151, c152, a154, b155, c156, a158, b159, c160]
      refine VGdO hx (fun g162 hx => ?_) (fun g162 hx => ?_)
      · simp only [go_sem, seval, c91, c147, a149, b150, c151, c152, a154, b155, c156, a158, b159, c160, g162]
        refine VGdO hx (fun g163 hx => ?_) (fun g163 hx => ?_)
        · simp only [go_sem, seval, c91, c147, a149, b150, c151, c152, a154, b155, c156, a158, b159, c160, g162, g163]
          refine hK _ ?_
          clear hK K
          refine Walk.condO rfl hx (fun c164 hx => ?_) (fun c164 hx => ?_)
          · refine Walk.seq (Walk.region' rfl fun K hK => ?_)
            simp only [go_sem, seval, c91, c147, a149, b150, c151, c152, a154, b155, c156, a158, b159, c160, g162, g163, c164]
            refine hK _ ?_
            clear hK K
            obtain ⟨z165, e166, hx⟩ := exit_elim hx
            rw [hr145 z165 e166] at hx
            obtain rfl := Option.some.inj hx
            exact Walk.ret ⟨by simp [c91, c147, a149, b150, c151, c152, a154, b155, c156, a158, b159, c160, g162, g163, c164], by simp [c91, c147, a149, b150, c151, c152, a154, b155, c156, a158, b159, c160, g162, g163, c164]⟩
          refine Walk.skip (Walk.inBlock (Walk.inBlock (Walk.region' rfl fun K hK => ?_)))
          simp only [go_sem, seval, c91, c147, a149, b150, c151, c152, a154, b155, c156, a158, b159, c160, g162, g163, c164]
          refine hK _ ?_
          clear hK K
          exact Walk.weaken _ (by simp [c91, c147, a149, b150, c151, c152, a154, b155, c156, a158, b159, c160, g162, g163, c164] <;> omega) (by simp [c91, c147, a149, b150, c151, c152, a154, b155, c156, a158, b159, c160, g162, g163, c164] <;> omega) (ih144 _ (cont_elim hx))
        simp only [go_sem, seval, c91, c147, a149, b150, c151, c152, a154, b155, c156, a158, b159, c160, g162, g163]
        refine hK _ ?_
        clear hK K
        refine Walk.condF rfl (Walk.skip (Walk.inBlock (Walk.inBlock (Walk.region' rfl fun K hK => ?_))))
        simp only [go_sem, seval, c91, c147, a149, b150, c151, c152, a154, b155, c156, a158, b159, c160, g162, g163]
        refine hK _ ?_
        clear hK K
        exact Walk.weaken _ (by simp [c91, c147, a149, b150, c151, c152, a154, b155, c156, a158, b159, c160, g162, g163] <;> omega) (by simp [c91, c147, a149, b150, c151, c152, a154, b155, c156, a158, b159, c160, g162, g163] <;> omega) (ih144 _ (cont_elim hx))
      simp only [go_sem, seval, c91, c147, a149, b150, c151, c152, a154, b155, c156, a158, b159, c160, g162]
      refine hK _ ?_
      clear hK K
      refine Walk.condF rfl (Walk.skip (Walk.inBlock (Walk.inBlock (Walk.region' rfl fun K hK => ?_))))
      simp only [go_sem, seval, c91, c147, a149, b150, c151, c152, a154, b155, c156, a158, b159, c160, g162]
      refine hK _ ?_
      clear hK K
      exact Walk.weaken _ (by simp [c91, c147, a149, b150, c151, c152, a154, b155, c156, a158, b159, c160, g162] <;> omega) (by simp [c91, c147, a149, b150, c151, c152, a154, b155, c156, a158, b159, c160, g162] <;> omega) (ih144 _ (cont_elim hx))
    refine Walk.seq (Walk.region' rfl fun K hK => ?_)
    simp only [go_sem, seval, c91, c147, a149, b150, c151, c152]
    refine hK _ ?_
    clear hK K
    refine Walk.condO rfl hx (fun c167 hx => ?_) (fun c167 hx => ?_)
    · refine Walk.seq (Walk.drawn' rfl mixed fun K hK => ?_)
      obtain ⟨v49, r168, a169, b170, c171, hx⟩ := rd_elim hx
      obtain ⟨v50, h172, hx⟩ := bind_elim hx
      simp only [go_sem, seval, c91, c147, a149, b150, c151, c152, c167, a169, b170, c171]
      repeat refine And.intro (by first | omega | (simp; done) | (simp; omega)) ?_
      refine VCl.pure rfl (by simp only [go_sem, seval, c91, c147, a149, b150, c151, c152, c167, a169, b170, c171]; try simp) (optimality_bound_ok v1 v2 v49 v45.Kind v45.Var v45.Zero v45.One v45.Row v45.Num v45.Den _ h172) (by simp only [go_sem, seval, c91, c147, a149, b150, c151, c152, c167, a169, b170, c171]; try simp) (by simp only [go_sem, seval, c91, c147, a149, b150, c151, c152, c167, a169, b170, c171]; try simp) (by simp only [go_sem, seval, c91, c147, a149, b150, c151, c152, c167, a169, b170, c171]; try simp) (by simp only [go_sem, seval, c91, c147, a149, b150, c151, c152, c167, a169, b170, c171]; try simp) (by simp only [go_sem, seval, c91, c147, a149, b150, c151, c152, c167, a169, b170, c171]; try simp) (by simp only [go_sem, seval, c91, c147, a149, b150, c151, c152, c167, a169, b170, c171]; try simp) ?_
      simp only [go_sem, seval, c91, c147, a149, b150, c151, c152, c167, a169, b170, c171]
      refine hK _ _ (by kernel_rfl) (by simp [c91, c147, a149, b150, c151, c152, c167, a169, b170, c171]) ?_
      clear hK K
      refine Walk.seq (Walk.region' rfl fun K hK => ?_)
      simp only [go_sem, seval, c91, c147, a149, b150, c151, c152, c167, a169, b170, c171]
      refine VGdO hx (fun g173 hx => ?_) (fun g173 hx => ?_)
      · simp only [go_sem, seval, c91, c147, a149, b150, c151, c152, c167, a169, b170, c171, g173]
        refine hK _ ?_
        clear hK K
        refine Walk.condT rfl (Walk.region' rfl fun K hK => ?_)
        simp only [go_sem, seval, c91, c147, a149, b150, c151, c152, c167, a169, b170, c171, g173]
        refine hK _ ?_
        clear hK K
        refine Walk.inBlock (Walk.inBlock (Walk.region' rfl fun K hK => ?_))
        simp only [go_sem, seval, c91, c147, a149, b150, c151, c152, c167, a169, b170, c171, g173]
        refine hK _ ?_
        clear hK K
        exact Walk.weaken _ (by simp [c91, c147, a149, b150, c151, c152, c167, a169, b170, c171, g173] <;> omega) (by simp [c91, c147, a149, b150, c151, c152, c167, a169, b170, c171, g173] <;> omega) (ih144 _ (cont_elim hx))
      simp only [go_sem, seval, c91, c147, a149, b150, c151, c152, c167, a169, b170, c171, g173]
      refine hK _ ?_
      clear hK K
      refine Walk.condO rfl hx (fun c174 hx => ?_) (fun c174 hx => ?_)
      · refine Walk.region' rfl fun K hK => ?_
        simp only [go_sem, seval, c91, c147, a149, b150, c151, c152, c167, a169, b170, c171, g173, c174]
        refine hK _ ?_
        clear hK K
        refine Walk.inBlock (Walk.inBlock (Walk.region' rfl fun K hK => ?_))
        simp only [go_sem, seval, c91, c147, a149, b150, c151, c152, c167, a169, b170, c171, g173, c174]
        refine hK _ ?_
        clear hK K
        exact Walk.weaken _ (by simp [c91, c147, a149, b150, c151, c152, c167, a169, b170, c171, g173, c174] <;> omega) (by simp [c91, c147, a149, b150, c151, c152, c167, a169, b170, c171, g173, c174] <;> omega) (ih144 _ (cont_elim hx))
      refine Walk.skip (Walk.inBlock (Walk.inBlock (Walk.region' rfl fun K hK => ?_)))
      simp only [go_sem, seval, c91, c147, a149, b150, c151, c152, c167, a169, b170, c171, g173, c174]
      refine hK _ ?_
      clear hK K
      exact Walk.weaken _ (by simp [c91, c147, a149, b150, c151, c152, c167, a169, b170, c171, g173, c174] <;> omega) (by simp [c91, c147, a149, b150, c151, c152, c167, a169, b170, c171, g173, c174] <;> omega) (ih144 _ (cont_elim hx))
    refine Walk.skip (Walk.inBlock (Walk.inBlock (Walk.region' rfl fun K hK => ?_)))
    simp only [go_sem, seval, c91, c147, a149, b150, c151, c152, c167]
    refine hK _ ?_
    clear hK K
    exact Walk.weaken _ (by simp [c91, c147, a149, b150, c151, c152, c167] <;> omega) (by simp [c91, c147, a149, b150, c151, c152, c167] <;> omega) (ih144 _ (cont_elim hx))
  refine Walk.exit rfl ?_
  obtain ⟨z175, e176, hx⟩ := exit_elim hx
  rw [hr145 z175 e176] at hx
  refine Walk.seq (Walk.region' rfl fun K hK => ?_)
  simp only [go_sem, seval, c91, c147]
  refine hK _ ?_
  clear hK K
  obtain rfl := Option.some.inj hx
  exact Walk.ret ⟨by simp [c91, c147], by simp [c91, c147]⟩
noncomputable def optimality_Check_j0 (v1 : List Int) (v2 : List Row) (v6 : List Node) (v5 : Int) (v18 : Bool) : Option (Int) :=
  (optimality_Proved v1 v2 v6).bind fun v19 => bif decide (¬ v19.2.2 = 0) then (some (v19.2.2 : Int)) else (bif v18 then (bif !v19.2.1 then (some (30 : Int)) else (bif decide (v19.1 < v5) then (some (30 : Int)) else (some (0 : Int)))) else (bif v19.2.1 then (some (30 : Int)) else (some (0 : Int))))
noncomputable def optimality_Check (v1 : List Int) (v2 : List Row) (v3 : Bool) (v4 : List Int) (v5 : Int) (v6 : List Node) : Option (Int) :=
  (blueprint_Valid v1 v2).bind fun v15 => bif !v15 then (some (1 : Int)) else ((blueprint_Cost v1 v2 v4).bind fun v16 => bif v3 then ((blueprint_Meets v1 v2 v4).bind fun v20 => bif !v20 then (some (10 : Int)) else (bif decide (¬ v16.1 = v5) then (some (10 : Int)) else (optimality_Check_j0 v1 v2 v6 v5 true))) else (bif decide ((v4.length : Int) > 0) then (some (10 : Int)) else (bif decide (¬ v5 = 0) then (some (10 : Int)) else (optimality_Check_j0 v1 v2 v6 v5 false))))
theorem optimality_Check_ok (v1 : List Int) (v2 : List Row) (v3 : Bool) (v4 : List Int) (v5 : Int) (v6 : List Node) (r : Int) (hx : optimality_Check v1 v2 v3 v4 v5 v6 = some r) :
    ACalls Try.prog 21 [.agg [.d (.sl (List.map iD v1)), .d (.sl (List.map Row.D v2))], .agg [.d (.bool v3), .d (.sl (List.map iD v4)), .d (.int .i64 v5), .d (.sl (List.map Node.D v6))]] [] (.d (.int .i64 r)) [] := by
  refine ACalls.of_sem (n := 82) 0 [4] (fn := Try.f21) Try.func21 rfl rfl (.one rfl) rfl (by simp) (by intro i; simp only [hget]; (repeat' split) <;> simp <;> omega) ?_
  unfold optimality_Check at hx
  refine Walk.seq (Walk.region' rfl fun K hK => ?_)
  simp only [go_sem, seval]
  refine hK _ ?_
  clear hK K
  refine Walk.seq (Walk.seq (Walk.region' rfl fun K hK => ?_))
  obtain ⟨v15, h23, hx⟩ := bind_elim hx
  simp only [go_sem, seval]
  refine VCl.pure rfl (by simp only [go_sem, seval]; try simp) (blueprint_Valid_ok v1 v2 _ h23) (by simp only [go_sem, seval]; try simp) (by simp only [go_sem, seval]; try simp) (by simp only [go_sem, seval]; try simp) (by simp only [go_sem, seval]; try simp) (by simp only [go_sem, seval]; try simp) (by simp only [go_sem, seval]; try simp) ?_
  simp only [go_sem, seval]
  refine hK _ ?_
  clear hK K
  refine Walk.condO rfl hx (fun c25 hx => ?_) (fun c25 hx => ?_)
  · refine Walk.seq (Walk.region' rfl fun K hK => ?_)
    simp only [go_sem, seval, c25]
    refine hK _ ?_
    clear hK K
    obtain rfl := Option.some.inj hx
    exact Walk.ret ⟨by simp [c25], by simp [c25]⟩
  refine Walk.skip (Walk.seq (Walk.region' rfl fun K hK => ?_))
  obtain ⟨v16, h26, hx⟩ := bind_elim hx
  simp only [go_sem, seval, c25]
  refine VCl.pure rfl (by simp only [go_sem, seval, c25]; try simp) (blueprint_Cost_ok v1 v2 v4 _ h26) (by simp only [go_sem, seval, c25]; try simp) (by simp only [go_sem, seval, c25]; try simp) (by simp only [go_sem, seval, c25]; try simp) (by simp only [go_sem, seval, c25]; try simp) (by simp only [go_sem, seval, c25]; try simp) (by simp only [go_sem, seval, c25]; try simp) ?_
  simp only [go_sem, seval, c25]
  refine hK _ ?_
  clear hK K
  refine Walk.seq (Walk.join (G := Bool) (fun g => ⟨[(2, .box 2 0), (3, .box 3 0)], [(2, some (.box [.d (.sl (List.map iD v1)), .d (.sl (List.map Row.D v2))])), (3, some (.box [.d (.bool g), .d (.sl (List.map iD v4)), .d (.int .i64 v5), .d (.sl (List.map Node.D v6))]))]⟩) (fun g => optimality_Check_j0 v1 v2 v6 v5 g) hx (fun v18 hx => ?_) (fun fin33 => ?_))
  · unfold optimality_Check_j0 at hx
    try dsimp only at hx ⊢
    refine Walk.seq (Walk.region' rfl fun K hK => ?_)
    obtain ⟨v19, h34, hx⟩ := bind_elim hx
    simp only [go_sem, seval, c25]
    refine VCl.pure rfl (by simp only [go_sem, seval, c25]; try simp) (optimality_Proved_ok v1 v2 v6 _ h34) (by simp only [go_sem, seval, c25]; try simp) (by simp only [go_sem, seval, c25]; try simp) (by simp only [go_sem, seval, c25]; try simp) (by simp only [go_sem, seval, c25]; try simp) (by simp only [go_sem, seval, c25]; try simp) (by simp only [go_sem, seval, c25]; try simp) ?_
    simp only [go_sem, seval, c25]
    refine hK _ ?_
    clear hK K
    refine Walk.seq (Walk.seq (Walk.region' rfl fun K hK => ?_))
    simp only [go_sem, seval, c25]
    refine hK _ ?_
    clear hK K
    refine Walk.condO rfl hx (fun c37 hx => ?_) (fun c37 hx => ?_)
    · refine Walk.seq (Walk.region' rfl fun K hK => ?_)
      simp only [go_sem, seval, c25, c37]
      refine hK _ ?_
      clear hK K
      obtain rfl := Option.some.inj hx
      exact Walk.ret ⟨by simp [c25, c37], by simp [c25, c37]⟩
    refine Walk.skip (Walk.seq (Walk.seq (Walk.region' rfl fun K hK => ?_)))
    simp only [go_sem, seval, c25, c37]
    refine VGdO hx (fun g38 hx => ?_) (fun g38 hx => ?_)
    · simp only [go_sem, seval, c25, c37, g38]
      refine VGdO hx (fun g39 hx => ?_) (fun g39 hx => ?_)
      · simp only [go_sem, seval, c25, c37, g38, g39]
        refine hK _ ?_
        clear hK K
        refine Walk.condT rfl (Walk.seq (Walk.region' rfl fun K hK => ?_))
        simp only [go_sem, seval, c25, c37, g38, g39]
        refine hK _ ?_
        clear hK K
        obtain rfl := Option.some.inj hx
        exact Walk.ret ⟨by simp [c25, c37, g38, g39], by simp [c25, c37, g38, g39]⟩
      simp only [go_sem, seval, c25, c37, g38, g39]
      refine VGdO hx (fun g40 hx => ?_) (fun g40 hx => ?_)
      · simp only [go_sem, seval, c25, c37, g38, g39, g40]
        refine hK _ ?_
        clear hK K
        refine Walk.condT rfl (Walk.seq (Walk.region' rfl fun K hK => ?_))
        simp only [go_sem, seval, c25, c37, g38, g39, g40]
        refine hK _ ?_
        clear hK K
        obtain rfl := Option.some.inj hx
        exact Walk.ret ⟨by simp [c25, c37, g38, g39, g40], by simp [c25, c37, g38, g39, g40]⟩
      simp only [go_sem, seval, c25, c37, g38, g39, g40]
      refine hK _ ?_
      clear hK K
      refine Walk.condF rfl (Walk.skip (Walk.seq (Walk.region' rfl fun K hK => ?_)))
      simp only [go_sem, seval, c25, c37, g38, g39, g40]
      refine hK _ ?_
      clear hK K
      obtain rfl := Option.some.inj hx
      exact Walk.ret ⟨by simp [c25, c37, g38, g39, g40], by simp [c25, c37, g38, g39, g40]⟩
    simp only [go_sem, seval, c25, c37, g38]
    refine hK _ ?_
    clear hK K
    refine Walk.condO rfl hx (fun c41 hx => ?_) (fun c41 hx => ?_)
    · refine Walk.seq (Walk.region' rfl fun K hK => ?_)
      simp only [go_sem, seval, c25, c37, g38, c41]
      refine hK _ ?_
      clear hK K
      obtain rfl := Option.some.inj hx
      exact Walk.ret ⟨by simp [c25, c37, g38, c41], by simp [c25, c37, g38, c41]⟩
    refine Walk.skip (Walk.seq (Walk.region' rfl fun K hK => ?_))
    simp only [go_sem, seval, c25, c37, g38, c41]
    refine hK _ ?_
    clear hK K
    obtain rfl := Option.some.inj hx
    exact Walk.ret ⟨by simp [c25, c37, g38, c41], by simp [c25, c37, g38, c41]⟩
  refine Walk.seq (Walk.region' rfl fun K hK => ?_)
  simp only [go_sem, seval, c25]
  refine VGdO hx (fun g42 hx => ?_) (fun g42 hx => ?_)
  · obtain ⟨v20, h43, hx⟩ := bind_elim hx
    simp only [go_sem, seval, c25, g42]
    refine VCl.pure rfl (by simp only [go_sem, seval, c25, g42]; try simp) (blueprint_Meets_ok v1 v2 v4 _ h43) (by simp only [go_sem, seval, c25, g42]; try simp) (by simp only [go_sem, seval, c25, g42]; try simp) (by simp only [go_sem, seval, c25, g42]; try simp) (by simp only [go_sem, seval, c25, g42]; try simp) (by simp only [go_sem, seval, c25, g42]; try simp) (by simp only [go_sem, seval, c25, g42]; try simp) ?_
    simp only [go_sem, seval, c25, g42]
    refine VGdO hx (fun g44 hx => ?_) (fun g44 hx => ?_)
    · simp only [go_sem, seval, c25, g42, g44]
      refine hK _ ?_
      clear hK K
      refine Walk.condT rfl (Walk.seq (Walk.region' rfl fun K hK => ?_))
      simp only [go_sem, seval, c25, g42, g44]
      refine hK _ ?_
      clear hK K
      obtain rfl := Option.some.inj hx
      exact Walk.ret ⟨by simp [c25, g42, g44], by simp [c25, g42, g44]⟩
    simp only [go_sem, seval, c25, g42, g44]
    refine VGdO hx (fun g45 hx => ?_) (fun g45 hx => ?_)
    · simp only [go_sem, seval, c25, g42, g44, g45]
      refine hK _ ?_
      clear hK K
      refine Walk.condT rfl (Walk.seq (Walk.region' rfl fun K hK => ?_))
      simp only [go_sem, seval, c25, g42, g44, g45]
      refine hK _ ?_
      clear hK K
      obtain rfl := Option.some.inj hx
      exact Walk.ret ⟨by simp [c25, g42, g44, g45], by simp [c25, g42, g44, g45]⟩
    simp only [go_sem, seval, c25, g42, g44, g45]
    refine hK _ ?_
    clear hK K
    refine Walk.condF rfl (Walk.skip ?_)
    exact Walk.weaken _ (by simp [c25, g42, g44, g45] <;> omega) (by simp [c25, g42, g44, g45] <;> omega) (fin33 true hx)
  simp only [go_sem, seval, c25, g42]
  refine VGdO hx (fun g46 hx => ?_) (fun g46 hx => ?_)
  · simp only [go_sem, seval, c25, g42, g46]
    refine hK _ ?_
    clear hK K
    refine Walk.condT rfl (Walk.seq (Walk.region' rfl fun K hK => ?_))
    simp only [go_sem, seval, c25, g42, g46]
    refine hK _ ?_
    clear hK K
    obtain rfl := Option.some.inj hx
    exact Walk.ret ⟨by simp [c25, g42, g46], by simp [c25, g42, g46]⟩
  simp only [go_sem, seval, c25, g42, g46]
  refine hK _ ?_
  clear hK K
  refine Walk.condO rfl hx (fun c47 hx => ?_) (fun c47 hx => ?_)
  · refine Walk.seq (Walk.region' rfl fun K hK => ?_)
    simp only [go_sem, seval, c25, g42, g46, c47]
    refine hK _ ?_
    clear hK K
    obtain rfl := Option.some.inj hx
    exact Walk.ret ⟨by simp [c25, g42, g46, c47], by simp [c25, g42, g46, c47]⟩
  refine Walk.skip ?_
  exact Walk.weaken _ (by simp [c25, g42, g46, c47] <;> omega) (by simp [c25, g42, g46, c47] <;> omega) (fin33 false hx)
noncomputable def law10_awake : Option (Bool) :=
  (assembly_Solve [3, 5, 3] ([(Row.mk [1, 1, 1] 1 3)])).bind fun v8 => (assembly_Repeat [3, 5, 3] ([(Row.mk [1, 1, 1] 1 3)]) v8.2.1 v8.2.2.1 v8.2.2.2.1 v8.2.2.2.2).bind fun v9 => (assembly_Solve v9.2.1 v9.2.2).bind fun v10 => bif decide (v8.1 = 0) then (bif decide (v9.1 = 0) then (bif decide (v10.1 = 0) then (bif v8.2.1 then (bif decide (v8.2.2.2.1 = 3) then ((ref06_Ints v8.2.2.1 [0]).bind fun v11 => bif v11 then (bif v10.2.1 then ((ref06_Ints v10.2.2.1 [2]).bind fun v12 => bif v12 then ((optimality_Check [3, 5, 3] ([(Row.mk [1, 1, 1] 1 3)]) true v8.2.2.1 v8.2.2.2.1 v8.2.2.2.2).bind fun v13 => some (decide (v13 = 0) : Bool)) else (some (false : Bool))) else (some (false : Bool))) else (some (false : Bool))) else (some (false : Bool))) else (some (false : Bool))) else (some (false : Bool))) else (some (false : Bool))) else (some (false : Bool))
theorem law10_awake_ok (r : Bool) (hx : law10_awake = some r) :
    ACalls Try.prog 16 [] [] (.d (.bool r)) [] := by
  refine ACalls.of_sem (n := 70) 0 [0] (fn := Try.f16) Try.func16 rfl rfl (.one rfl) rfl (by simp) (by intro i; simp only [hget]; (repeat' split) <;> simp <;> omega) ?_
  unfold law10_awake at hx
  refine Walk.seq (Walk.region' rfl fun K hK => ?_)
  simp only [go_sem, seval]
  refine hK _ ?_
  clear hK K
  refine Walk.seq (Walk.region' rfl fun K hK => ?_)
  simp only [go_sem, seval]
  refine hK _ ?_
  clear hK K
  refine Walk.weaken ⟨[(1, .box 1 0)], [(1, some (.box [.arr 8 0 3, .arr 11 0 1])), (8, some (.arr 3 1 (List.map iD [3, 5, 3]))), (11, some (.arr 47 3 (List.map Row.D ([(Row.mk [1, 1, 1] 1 3)]))))]⟩ (by simp <;> omega) (by simp <;> omega) ?_
  refine Walk.seq ?_
  refine Walk.weaken ⟨[(1, .box 1 0)], [(1, some (.box [.arr 8 0 3, .arr 11 0 1])), (8, some (.arr 3 1 (List.map iD [3, 5, 3]))), (11, some (.arr 47 3 (List.map Row.D ([(Row.mk [1, 1, 1] 1 3)]))))]⟩ (by simp <;> omega) (by simp <;> omega) ?_
  refine Walk.freeze 8 3 1 (List.map iD [3, 5, 3]) [(1, .box 1 0)] [(1, some (.box [.d (.sl (List.map iD [3, 5, 3])), .arr 11 0 1])), (11, some (.arr 47 3 (List.map Row.D ([(Row.mk [1, 1, 1] 1 3)]))))] (by simp) (by simp) (by simp) ?_
  refine Walk.weaken ⟨[(1, .box 1 0)], [(1, some (.box [.d (.sl (List.map iD [3, 5, 3])), .arr 11 0 1])), (11, some (.arr 47 3 (List.map Row.D ([(Row.mk [1, 1, 1] 1 3)]))))]⟩ (by simp <;> omega) (by simp <;> omega) ?_
  refine Walk.freeze 11 47 3 (List.map Row.D ([(Row.mk [1, 1, 1] 1 3)])) [(1, .box 1 0)] [(1, some (.box [.d (.sl (List.map iD [3, 5, 3])), .d (.sl (List.map Row.D ([(Row.mk [1, 1, 1] 1 3)])))]))] (by simp) (by simp) (by simp) ?_
  refine Walk.region' rfl fun K hK => ?_
  obtain ⟨v8, h18, hx⟩ := bind_elim hx
  have w19 := ((assembly_Solve_ok [3, 5, 3] ([(Row.mk [1, 1, 1] 1 3)]) _ h18).swap 2001 1005)
  simp only [renE, renL, AV.ren, AV.rens, AObj.ren, swp, Option.map_some, reduceIte, Nat.reduceEqDiff] at w19
  simp only [go_sem, seval]
  refine VCl.pure rfl (by simp only [go_sem, seval]; try simp) (w19) (by simp only [go_sem, seval]; try simp) (by simp only [go_sem, seval]; try simp) (by simp only [go_sem, seval]; try simp) (by simp only [go_sem, seval]; try simp) (by simp only [go_sem, seval]; try simp) (by simp only [go_sem, seval]; try simp) ?_
  simp only [go_sem, seval]
  refine hK _ ?_
  clear hK K
  refine Walk.weaken ⟨[(1, .box 1 0), (2, .box 2 0), (3, .d (.int .i64 v8.1))], [(1, some (.box [.d (.sl (List.map iD [3, 5, 3])), .d (.sl (List.map Row.D ([(Row.mk [1, 1, 1] 1 3)])))])), (2, some (.box [.d (.bool v8.2.1), .d (.sl (List.map iD v8.2.2.1)), .d (.int .i64 v8.2.2.2.1), .arr 1005 0 v8.2.2.2.2.length])), (1005, some (.arr 86 7 (List.map Node.D v8.2.2.2.2)))]⟩ (by simp <;> omega) (by simp <;> omega) ?_
  refine Walk.seq ?_
  refine Walk.weaken ⟨[(1, .box 1 0), (2, .box 2 0), (3, .d (.int .i64 v8.1))], [(1, some (.box [.d (.sl (List.map iD [3, 5, 3])), .d (.sl (List.map Row.D ([(Row.mk [1, 1, 1] 1 3)])))])), (2, some (.box [.d (.bool v8.2.1), .d (.sl (List.map iD v8.2.2.1)), .d (.int .i64 v8.2.2.2.1), .arr 1005 0 v8.2.2.2.2.length])), (1005, some (.arr 86 7 (List.map Node.D v8.2.2.2.2)))]⟩ (by simp <;> omega) (by simp <;> omega) ?_
  refine Walk.freeze 1005 86 7 (List.map Node.D v8.2.2.2.2) [(1, .box 1 0), (2, .box 2 0), (3, .d (.int .i64 v8.1))] [(1, some (.box [.d (.sl (List.map iD [3, 5, 3])), .d (.sl (List.map Row.D ([(Row.mk [1, 1, 1] 1 3)])))])), (2, some (.box [.d (.bool v8.2.1), .d (.sl (List.map iD v8.2.2.1)), .d (.int .i64 v8.2.2.2.1), .d (.sl (List.map Node.D v8.2.2.2.2))]))] (by simp) (by simp) (by simp) ?_
  refine Walk.region' rfl fun K hK => ?_
  obtain ⟨v9, h20, hx⟩ := bind_elim hx
  have w21 := (((assembly_Repeat_ok [3, 5, 3] ([(Row.mk [1, 1, 1] 1 3)]) v8.2.1 v8.2.2.1 v8.2.2.2.1 v8.2.2.2.2 _ h20).swap 2001 1006).swap 2002 1007)
  simp only [renE, renL, AV.ren, AV.rens, AObj.ren, swp, Option.map_some, reduceIte, Nat.reduceEqDiff] at w21
  simp only [go_sem, seval]
  refine VCl.pure rfl (by simp only [go_sem, seval]; try simp) (w21) (by simp only [go_sem, seval]; try simp) (by simp only [go_sem, seval]; try simp) (by simp only [go_sem, seval]; try simp) (by simp only [go_sem, seval]; try simp) (by simp only [go_sem, seval]; try simp) (by simp only [go_sem, seval]; try simp) ?_
  simp only [go_sem, seval]
  refine hK _ ?_
  clear hK K
  refine Walk.weaken ⟨[(1, .box 1 0), (2, .box 2 0), (3, .d (.int .i64 v8.1)), (4, .box 4 0), (5, .d (.int .i64 v9.1))], [(1, some (.box [.d (.sl (List.map iD [3, 5, 3])), .d (.sl (List.map Row.D ([(Row.mk [1, 1, 1] 1 3)])))])), (2, some (.box [.d (.bool v8.2.1), .d (.sl (List.map iD v8.2.2.1)), .d (.int .i64 v8.2.2.2.1), .d (.sl (List.map Node.D v8.2.2.2.2))])), (4, some (.box [.arr 1006 0 v9.2.1.length, .arr 1007 0 v9.2.2.length])), (1006, some (.arr 3 1 (List.map iD v9.2.1))), (1007, some (.arr 47 3 (List.map Row.D v9.2.2)))]⟩ (by simp <;> omega) (by simp <;> omega) ?_
  refine Walk.seq ?_
  refine Walk.weaken ⟨[(1, .box 1 0), (2, .box 2 0), (3, .d (.int .i64 v8.1)), (4, .box 4 0), (5, .d (.int .i64 v9.1))], [(1, some (.box [.d (.sl (List.map iD [3, 5, 3])), .d (.sl (List.map Row.D ([(Row.mk [1, 1, 1] 1 3)])))])), (2, some (.box [.d (.bool v8.2.1), .d (.sl (List.map iD v8.2.2.1)), .d (.int .i64 v8.2.2.2.1), .d (.sl (List.map Node.D v8.2.2.2.2))])), (4, some (.box [.arr 1006 0 v9.2.1.length, .arr 1007 0 v9.2.2.length])), (1006, some (.arr 3 1 (List.map iD v9.2.1))), (1007, some (.arr 47 3 (List.map Row.D v9.2.2)))]⟩ (by simp <;> omega) (by simp <;> omega) ?_
  refine Walk.freeze 1006 3 1 (List.map iD v9.2.1) [(1, .box 1 0), (2, .box 2 0), (3, .d (.int .i64 v8.1)), (4, .box 4 0), (5, .d (.int .i64 v9.1))] [(1, some (.box [.d (.sl (List.map iD [3, 5, 3])), .d (.sl (List.map Row.D ([(Row.mk [1, 1, 1] 1 3)])))])), (2, some (.box [.d (.bool v8.2.1), .d (.sl (List.map iD v8.2.2.1)), .d (.int .i64 v8.2.2.2.1), .d (.sl (List.map Node.D v8.2.2.2.2))])), (4, some (.box [.d (.sl (List.map iD v9.2.1)), .arr 1007 0 v9.2.2.length])), (1007, some (.arr 47 3 (List.map Row.D v9.2.2)))] (by simp) (by simp) (by simp) ?_
  refine Walk.weaken ⟨[(1, .box 1 0), (2, .box 2 0), (3, .d (.int .i64 v8.1)), (4, .box 4 0), (5, .d (.int .i64 v9.1))], [(1, some (.box [.d (.sl (List.map iD [3, 5, 3])), .d (.sl (List.map Row.D ([(Row.mk [1, 1, 1] 1 3)])))])), (2, some (.box [.d (.bool v8.2.1), .d (.sl (List.map iD v8.2.2.1)), .d (.int .i64 v8.2.2.2.1), .d (.sl (List.map Node.D v8.2.2.2.2))])), (4, some (.box [.d (.sl (List.map iD v9.2.1)), .arr 1007 0 v9.2.2.length])), (1007, some (.arr 47 3 (List.map Row.D v9.2.2)))]⟩ (by simp <;> omega) (by simp <;> omega) ?_
  refine Walk.freeze 1007 47 3 (List.map Row.D v9.2.2) [(1, .box 1 0), (2, .box 2 0), (3, .d (.int .i64 v8.1)), (4, .box 4 0), (5, .d (.int .i64 v9.1))] [(1, some (.box [.d (.sl (List.map iD [3, 5, 3])), .d (.sl (List.map Row.D ([(Row.mk [1, 1, 1] 1 3)])))])), (2, some (.box [.d (.bool v8.2.1), .d (.sl (List.map iD v8.2.2.1)), .d (.int .i64 v8.2.2.2.1), .d (.sl (List.map Node.D v8.2.2.2.2))])), (4, some (.box [.d (.sl (List.map iD v9.2.1)), .d (.sl (List.map Row.D v9.2.2))]))] (by simp) (by simp) (by simp) ?_
  refine Walk.region' rfl fun K hK => ?_
  obtain ⟨v10, h22, hx⟩ := bind_elim hx
  have w23 := ((assembly_Solve_ok v9.2.1 v9.2.2 _ h22).swap 2001 1008)
  simp only [renE, renL, AV.ren, AV.rens, AObj.ren, swp, Option.map_some, reduceIte, Nat.reduceEqDiff] at w23
  simp only [go_sem, seval]
  refine VCl.pure rfl (by simp only [go_sem, seval]; try simp) (w23) (by simp only [go_sem, seval]; try simp) (by simp only [go_sem, seval]; try simp) (by simp only [go_sem, seval]; try simp) (by simp only [go_sem, seval]; try simp) (by simp only [go_sem, seval]; try simp) (by simp only [go_sem, seval]; try simp) ?_
  simp only [go_sem, seval]
  refine hK _ ?_
  clear hK K
  refine Walk.weaken ⟨[(1, .box 1 0), (2, .box 2 0), (3, .d (.int .i64 v8.1)), (5, .d (.int .i64 v9.1)), (6, .box 6 0), (7, .d (.int .i64 v10.1))], [(1, some (.box [.d (.sl (List.map iD [3, 5, 3])), .d (.sl (List.map Row.D ([(Row.mk [1, 1, 1] 1 3)])))])), (2, some (.box [.d (.bool v8.2.1), .d (.sl (List.map iD v8.2.2.1)), .d (.int .i64 v8.2.2.2.1), .d (.sl (List.map Node.D v8.2.2.2.2))])), (6, some (.box [.d (.bool v10.2.1), .d (.sl (List.map iD v10.2.2.1)), .d (.int .i64 v10.2.2.2.1), .arr 1008 0 v10.2.2.2.2.length])), (1008, some (.arr 86 7 (List.map Node.D v10.2.2.2.2)))]⟩ (by simp <;> omega) (by simp <;> omega) ?_
  refine Walk.seq (Walk.region' rfl fun K hK => ?_)
  simp only [go_sem, seval]
  refine VGdO hx (fun g24 hx => ?_) (fun g24 hx => ?_)
  · simp only [go_sem, seval, g24]
    refine VGdO hx (fun g25 hx => ?_) (fun g25 hx => ?_)
    · simp only [go_sem, seval, g24, g25]
      refine VGdO hx (fun g26 hx => ?_) (fun g26 hx => ?_)
      · simp only [go_sem, seval, g24, g25, g26]
        refine VGdO hx (fun g27 hx => ?_) (fun g27 hx => ?_)
        · simp only [go_sem, seval, g24, g25, g26, g27]
          refine VGdO hx (fun g28 hx => ?_) (fun g28 hx => ?_)
          · obtain ⟨v11, h29, hx⟩ := bind_elim hx
            simp only [go_sem, seval, g24, g25, g26, g27, g28]
            refine VCl.lent rfl (by simp only [go_sem, seval, g24, g25, g26, g27, g28]; try simp) (ref06_Ints_ok v8.2.2.1 [0] _ h29) (by simp [g24, g25, g26, g27, g28]) (by simp [g24, g25, g26, g27, g28]) (by simp [g24, g25, g26, g27, g28]) (by simp [g24, g25, g26, g27, g28]) (by simp [g24, g25, g26, g27, g28]) (by simp [g24, g25, g26, g27, g28]) (by simp [g24, g25, g26, g27, g28]) ?_
            simp only [go_sem, seval, g24, g25, g26, g27, g28]
            refine VGdO hx (fun g30 hx => ?_) (fun g30 hx => ?_)
            · simp only [go_sem, seval, g24, g25, g26, g27, g28, g30]
              refine VGdO hx (fun g31 hx => ?_) (fun g31 hx => ?_)
              · obtain ⟨v12, h32, hx⟩ := bind_elim hx
                simp only [go_sem, seval, g24, g25, g26, g27, g28, g30, g31]
                refine VCl.lent rfl (by simp only [go_sem, seval, g24, g25, g26, g27, g28, g30, g31]; try simp) (ref06_Ints_ok v10.2.2.1 [2] _ h32) (by simp [g24, g25, g26, g27, g28, g30, g31]) (by simp [g24, g25, g26, g27, g28, g30, g31]) (by simp [g24, g25, g26, g27, g28, g30, g31]) (by simp [g24, g25, g26, g27, g28, g30, g31]) (by simp [g24, g25, g26, g27, g28, g30, g31]) (by simp [g24, g25, g26, g27, g28, g30, g31]) (by simp [g24, g25, g26, g27, g28, g30, g31]) ?_
                simp only [go_sem, seval, g24, g25, g26, g27, g28, g30, g31]
                refine VGdO hx (fun g33 hx => ?_) (fun g33 hx => ?_)
                · obtain ⟨v13, h34, hx⟩ := bind_elim hx
                  simp only [go_sem, seval, g24, g25, g26, g27, g28, g30, g31, g33]
                  refine VCl.pure rfl (by simp only [go_sem, seval, g24, g25, g26, g27, g28, g30, g31, g33]; try simp) (optimality_Check_ok [3, 5, 3] ([(Row.mk [1, 1, 1] 1 3)]) true v8.2.2.1 v8.2.2.2.1 v8.2.2.2.2 _ h34) (by simp only [go_sem, seval, g24, g25, g26, g27, g28, g30, g31, g33]; try simp) (by simp only [go_sem, seval, g24, g25, g26, g27, g28, g30, g31, g33]; try simp) (by simp only [go_sem, seval, g24, g25, g26, g27, g28, g30, g31, g33]; try simp) (by simp only [go_sem, seval, g24, g25, g26, g27, g28, g30, g31, g33]; try simp) (by simp only [go_sem, seval, g24, g25, g26, g27, g28, g30, g31, g33]; try simp) (by simp only [go_sem, seval, g24, g25, g26, g27, g28, g30, g31, g33]; try simp) ?_
                  simp only [go_sem, seval, g24, g25, g26, g27, g28, g30, g31, g33]
                  refine hK _ ?_
                  clear hK K
                  refine Walk.weaken ⟨[(0, .d (.bool (decide (v13 = 0))))], []⟩ (by simp [g24, g25, g26, g27, g28, g30, g31, g33] <;> omega) (by simp [g24, g25, g26, g27, g28, g30, g31, g33] <;> omega) ?_
                  obtain rfl := Option.some.inj hx
                  exact Walk.ret ⟨by simp [g24, g25, g26, g27, g28, g30, g31, g33], by simp [g24, g25, g26, g27, g28, g30, g31, g33]⟩
                simp only [go_sem, seval, g24, g25, g26, g27, g28, g30, g31, g33]
                refine hK _ ?_
                clear hK K
                refine Walk.weaken ⟨[(0, .d (.bool false))], []⟩ (by simp [g24, g25, g26, g27, g28, g30, g31, g33] <;> omega) (by simp [g24, g25, g26, g27, g28, g30, g31, g33] <;> omega) ?_
                obtain rfl := Option.some.inj hx
                exact Walk.ret ⟨by simp [g24, g25, g26, g27, g28, g30, g31, g33], by simp [g24, g25, g26, g27, g28, g30, g31, g33]⟩
              simp only [go_sem, seval, g24, g25, g26, g27, g28, g30, g31]
              refine hK _ ?_
              clear hK K
              refine Walk.weaken ⟨[(0, .d (.bool false))], []⟩ (by simp [g24, g25, g26, g27, g28, g30, g31] <;> omega) (by simp [g24, g25, g26, g27, g28, g30, g31] <;> omega) ?_
              obtain rfl := Option.some.inj hx
              exact Walk.ret ⟨by simp [g24, g25, g26, g27, g28, g30, g31], by simp [g24, g25, g26, g27, g28, g30, g31]⟩
            simp only [go_sem, seval, g24, g25, g26, g27, g28, g30]
            refine hK _ ?_
            clear hK K
            refine Walk.weaken ⟨[(0, .d (.bool false))], []⟩ (by simp [g24, g25, g26, g27, g28, g30] <;> omega) (by simp [g24, g25, g26, g27, g28, g30] <;> omega) ?_
            obtain rfl := Option.some.inj hx
            exact Walk.ret ⟨by simp [g24, g25, g26, g27, g28, g30], by simp [g24, g25, g26, g27, g28, g30]⟩
          simp only [go_sem, seval, g24, g25, g26, g27, g28]
          refine hK _ ?_
          clear hK K
          obtain rfl := Option.some.inj hx
          exact Walk.ret ⟨by simp [g24, g25, g26, g27, g28], by simp [g24, g25, g26, g27, g28]⟩
        simp only [go_sem, seval, g24, g25, g26, g27]
        refine hK _ ?_
        clear hK K
        obtain rfl := Option.some.inj hx
        exact Walk.ret ⟨by simp [g24, g25, g26, g27], by simp [g24, g25, g26, g27]⟩
      simp only [go_sem, seval, g24, g25, g26]
      refine hK _ ?_
      clear hK K
      obtain rfl := Option.some.inj hx
      exact Walk.ret ⟨by simp [g24, g25, g26], by simp [g24, g25, g26]⟩
    simp only [go_sem, seval, g24, g25]
    refine hK _ ?_
    clear hK K
    obtain rfl := Option.some.inj hx
    exact Walk.ret ⟨by simp [g24, g25], by simp [g24, g25]⟩
  simp only [go_sem, seval, g24]
  refine hK _ ?_
  clear hK K
  obtain rfl := Option.some.inj hx
  exact Walk.ret ⟨by simp [g24], by simp [g24]⟩
end Go.AX

