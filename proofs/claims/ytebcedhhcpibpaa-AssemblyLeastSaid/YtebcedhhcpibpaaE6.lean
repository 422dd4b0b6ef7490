import Derived.Test.YtebcedhhcpibpaaE5
set_option linter.unusedVariables false
set_option linter.unusedSimpArgs false
set_option maxRecDepth 20000
set_option maxHeartbeats 4000000
namespace Go.AX
open Go.Proofs
attribute [local simp] spl_len take_snoc take_cons_drop cons_rep cons_tail iA bA take_set_len idsL_rep idsL_iA idsL_bA idsL_sA idsL_set_mem idsL_sub sA_def List.map_replicate frVs_setS frVs_self frV_arr take_map_len subE subH eget hget upE upV upH upO_refl upO_box upVs freshE freshH freshO AV.ids AV.idsL ids_box ids_arr ids_pre idsL_room frE frV_refl frV_arr frH frO_refl frO_box frVs newOk evalA AV.viewXs AV.viewX AV.viewXP AV.viewXPs AV.viewPs AV.viewP AV.flat AV.flatL D.flat arrsOnly flatObjs newNames subOf closedIn allSome dstOk newOrOld avD avDp zv_i64 zv_u8 zv_bool zv_nils zv_nilp zv_str retAV aLoad cut TI.isAgg nlE nlH nlO_refl nlO_box nlVs nlV_refl nlV_nil iD uD bD tD lD List.map_set ti1 ti2 ti3 ti4 ti5 ti6 ti7 ti8 ti9 ti10 ti11 ti12 ti13 ti14 ti15 ti16 ti17 ti18 ti19 ti21 ti22 ti23 ti24 ti25 ti26 ti27 ti28 ti29 ti30 ti32 ti33 ti34 ti35 ti36 ti37 ti38 ti40 ti41 ti42 ti43 ti44 ti45 ti46 ti47 ti48 ti49 ti50 ti51 ti52 ti54 ti55 ti56 ti57 ti58 ti59 ti61 ti62 ti63 ti64 ti65 ti66 ti67 ti68 ti69 ti70 ti72 ti73 ti74 ti75 ti76 ti77 ti78 ti79 ti80 ti81 ti82 ti83 ti84 ti85 ti86 ti87 ti89 ti91 ti92 ti93 ti94 ti95 ti96 ti97 ti98 ti99 ti100 ti101 ti103 ti105 ti106 ti107 ti108 ti109 ti110 ti111 ti112 ti113 ti114 ti115 ti117 ti118 ti120 ti121 ti122 ti123 ti124 ti125 ti126 ti127 ti128 ti129 ti130 ti131 ti132 ti133 ti134 ti135 ti136 ti137 ti138 ti139 ti140 Row.D Node.D Part.D TItem.D Ref.D
attribute [local go_sem] V1_none V1_some V_nil V_move V_assign V_pick V_bin V_un V_extract V_makeFunc V_convert V_nilCheck V_fieldAddr V_field V_load V_store V_indexAddr V_index V_slice V_slice0 V_alloc V_box V_build V_buildSlice V_makeSlice V_len V_min V_max V_append V_copy V_call V_guard VGs_some VG_tt VG_ff VG_tf VG_ft VG_u gslot ok fail po so aNew dstOk freshU addLog_none' addLog_some' St.step putL evalA eget hget argE freshE freshO freshH AV.ids AV.idsL AV.ok1 AV.cells ids_box ids_arr liveBox liveArr isArr isObj isBoxB aPick isNilC aNilEq aBin aUn aExtract aMakeFunc aConvert aNilCheck aFieldAddr aField cut aLen aIndexAddr aMin aMax aIndex bnd isInt aSlice aSlice0 aLoad aAlloc aBox aStore splice aMake aMakeBox aCopy cellsOf cellsOfP updIds newIds zv_i64 zv_u8 zv_bool zv_nils zv_nilp cond_bool cond_int TI.isAgg TK.isSl TK.el okL avDps avDp avD List.map_cons List.map_nil List.append_nil List.nil_append List.cons_append List.length_cons List.length_nil List.take_succ_cons List.take_zero List.drop_succ_cons List.drop_zero List.take_nil List.drop_nil List.headD_cons List.getD_cons_zero List.getD_cons_succ List.mem_cons List.not_mem_nil List.getElem?_cons_zero List.getElem?_cons_succ List.toList_toArray Option.getD_some Option.getD_none Option.bind_some Option.bind_none Option.map_some Option.map_none Option.getD Option.toList Nat.zero_add Nat.add_zero Nat.zero_le Nat.le_refl if_true if_false ite_self true_and and_true false_and and_false true_or or_true false_or or_false not_true_eq_false not_false_eq_true ne_eq cond_true cond_false Bool.true_eq_false Bool.false_eq_true forall_const decide_true decide_false implies_true true_implies and_self or_self Nat.succ_ne_zero Int.toNat_natCast Int.natCast_nonneg List.length_map decide_eq_true_eq AV.views AV.view AV.viewPs AV.viewP arrsOnly newNames List.length_append List.append_assoc Bool.not_true Bool.not_false AV.ok2 aBuild fillR fillP aBuildSlice dense elP aAppend esOf esOfP List.forall_mem_cons forall_eq_or_imp forall_eq zD zDp map_take' map_drop' iD uD bD tD lD iD_len uD_len bD_len tD_len lD_len LB Int.cast_ofNat_Int Int.natCast_zero Int.natCast_one head_len all_len List.head?_cons List.head?_nil Bool.not_not eq_self List.take_length zv_str aConv byteOf isByte map_bcell bytes_all str_map cellsEq cellsP AV.kd Bool.and_true Bool.true_and Bool.and_false Bool.false_and spl_map spl_len mkbox_i mkbox_b flat_iD dataL_iA dataL_bA zv_u64 flat_iD' flat_len dataL_tA dataL_ttA spl_mt spl_mtt mkbox_s splice_one take_cons_drop cons_rep cons_tail hd_set hd_set0 List.length_replicate iA bA sA_def List.set_set List.length_set idsL_iA idsL_bA idsL_sA idsL_setE idsL_rep List.append_eq Nat.mul_one ids_pre idsL_room appBox_full appBox_room pre_iA one_iD List.flatten_cons List.flatten_nil ti1 ti2 ti3 ti4 ti5 ti6 ti7 ti8 ti9 ti10 ti11 ti12 ti13 ti14 ti15 ti16 ti17 ti18 ti19 ti21 ti22 ti23 ti24 ti25 ti26 ti27 ti28 ti29 ti30 ti32 ti33 ti34 ti35 ti36 ti37 ti38 ti40 ti41 ti42 ti43 ti44 ti45 ti46 ti47 ti48 ti49 ti50 ti51 ti52 ti54 ti55 ti56 ti57 ti58 ti59 ti61 ti62 ti63 ti64 ti65 ti66 ti67 ti68 ti69 ti70 ti72 ti73 ti74 ti75 ti76 ti77 ti78 ti79 ti80 ti81 ti82 ti83 ti84 ti85 ti86 ti87 ti89 ti91 ti92 ti93 ti94 ti95 ti96 ti97 ti98 ti99 ti100 ti101 ti103 ti105 ti106 ti107 ti108 ti109 ti110 ti111 ti112 ti113 ti114 ti115 ti117 ti118 ti120 ti121 ti122 ti123 ti124 ti125 ti126 ti127 ti128 ti129 ti130 ti131 ti132 ti133 ti134 ti135 ti136 ti137 ti138 ti139 ti140 Row.D Node.D Part.D TItem.D Ref.D Row.D_len Node.D_len Part.D_len TItem.D_len Ref.D_len zs_ zs_48_49_50_51_52_53_54_55_56_57_48_49_50_51_52_53_54_55_56_57_48_49_50_51_52_53_54_55_56_57_48_49_50_51_52_53_54_55_56_57_120 zs_113 zs_116_97_98_9 eqf74_00
noncomputable def assembly_Solve_l0 (v41 : List (List Int) × Int) (v1 : List Int) (v2 : List Row) (v64 : Int) (v65 : Bool) (v66 : List Int) (v67 : Int) : Option ((Int × Bool × List Int × Int) ⊕ (Int × Bool × List Int × Int × List Node)) :=
  bif decide (v64 < (v41.1.length : Int)) then ((rd v41.1 v64).bind fun v70 => (blueprint_Cost v1 v2 v70).bind fun v71 => bif !v65 then (contO ((IntKind.i64.wrap (v64 + 1), true, v70, v71.1) : Int × Bool × List Int × Int)) else (bif decide (v71.1 < v67) then (contO ((IntKind.i64.wrap (v64 + 1), true, v70, v71.1) : Int × Bool × List Int × Int)) else (contO ((IntKind.i64.wrap (v64 + 1), v65, v66, v67) : Int × Bool × List Int × Int)))) else (exitO ((slices_Repeat_int [-1] (v1.length : Int)).bind fun v72 => (assembly_Solve_1 0 0 v65 v66 v67 v1 v2 v72).bind fun v73 => some ((0, v73.2.1, v66, v67, v73.2.2) : Int × Bool × List Int × Int × List Node)))
noncomputable def assembly_Solve (v1 : List Int) (v2 : List Row) : Option (Int × Bool × List Int × Int × List Node) :=
  (assembly_All v1 v2).bind fun v41 => bif decide (¬ v41.2 = 0) then (some ((v41.2, false, [], 0, []) : Int × Bool × List Int × Int × List Node)) else (iter (fun g : Int × Bool × List Int × Int => assembly_Solve_l0 v41 v1 v2 g.1 g.2.1 g.2.2.1 g.2.2.2) (0, false, [], 0))
theorem assembly_Solve_ok (v1 : List Int) (v2 : List Row) (r : Int × Bool × List Int × Int × List Node) (hx : assembly_Solve v1 v2 = some r) :
    ACalls Try.prog 17 [.agg [.d (.sl (List.map iD v1)), .d (.sl (List.map Row.D v2))]] [] (.tup [.agg [.d (.bool r.2.1), .d (.sl (List.map iD r.2.2.1)), .d (.int .i64 r.2.2.2.1), .arr 2001 0 r.2.2.2.2.length], .d (.int .i64 r.1)]) [(2001, some (.arr 86 7 (List.map Node.D r.2.2.2.2)))] := by
  refine ACalls.of_cell2S (n := 56) 0 2 38 3 (fn := Try.f17) Try.func17 rfl rfl rfl rfl (by simp) (by intro i; simp only [hget]; (repeat' split) <;> simp <;> omega) ?_
  unfold assembly_Solve at hx
  refine Walk.seq (Walk.region' rfl fun K hK => ?_)
  simp only [go_sem, seval]
  refine hK _ ?_
  clear hK K
  refine Walk.seq (Walk.region' rfl fun K hK => ?_)
  obtain ⟨v41, h97, hx⟩ := bind_elim hx
  have w98 := ((assembly_All_ok v1 v2 _ h97).swap 2000 1005)
  simp only [renE, renL, AV.ren, AV.rens, AObj.ren, swp, Option.map_some, reduceIte, Nat.reduceEqDiff] at w98
  simp only [go_sem, seval]
  refine VCl.pure rfl (by simp only [go_sem, seval]; try simp) (w98) (by simp only [go_sem, seval]; try simp) (by simp only [go_sem, seval]; try simp) (by simp only [go_sem, seval]; try simp) (by simp only [go_sem, seval]; try simp) (by simp only [go_sem, seval]; try simp) (by simp only [go_sem, seval]; try simp) ?_
  simp only [go_sem, seval]
  refine hK _ ?_
  clear hK K
  refine Walk.weaken ⟨[(1, .box 1 0), (2, .box 2 0), (4, .arr 1005 0 v41.1.length), (5, .d (.int .i64 v41.2))], [(1, some (.box [.d (.sl (List.map iD v1)), .d (.sl (List.map Row.D v2))])), (2, some (.box [.d (.bool false), .nils, .d (.int .i64 0), .nils])), (1005, some (.arr 22 1 (List.map (lD iD) v41.1)))]⟩ (by simp <;> omega) (by simp <;> omega) ?_
  refine Walk.seq (Walk.seq (Walk.region' rfl fun K hK => ?_))
  simp only [go_sem, seval]
  refine hK _ ?_
  clear hK K
  refine Walk.condO rfl hx (fun c101 hx => ?_) (fun c101 hx => ?_)
  · refine Walk.seq (Walk.region' rfl fun K hK => ?_)
    simp only [go_sem, seval, c101]
    refine hK _ ?_
    clear hK K
    refine Walk.weaken ⟨[(2, .box 2 0), (3, .d (.int .i64 v41.2))], [(2, some (.box [.d (.bool false), .nils, .d (.int .i64 0), .nils]))]⟩ (by simp [c101] <;> omega) (by simp [c101] <;> omega) ?_
    refine Walk.nil2d [(2, .box 2 0), (3, .d (.int .i64 v41.2))] [(2, some (.box [.d (.bool false), .d (.sl (List.map iD [])), .d (.int .i64 0), .nils]))] (by simp) (by simp) ?_
    refine Walk.up 2001 86 7 [(2, .box 2 0), (3, .d (.int .i64 v41.2))] [(2, some (.box [.d (.bool false), .d (.sl (List.map iD [])), .d (.int .i64 0), .arr 2001 0 0]))] (by simp) (by simp) (by omega) (by simp) (by simp) (by simp) ?_
    refine Walk.rename 2 2000 (by omega) (by omega) (by simp) (by simp) ?_
    simp only [renE, renL, AV.ren, AV.rens, AObj.ren, swp, Option.map_some, reduceIte, Nat.reduceEqDiff]
    obtain rfl := Option.some.inj hx
    exact Walk.ret ⟨2000, 0, by simp, by simp, by simp [c101], by simp [c101]⟩
  refine Walk.skip (Walk.seq (Walk.region' rfl fun K hK => ?_))
  simp only [go_sem, seval, c101]
  refine hK _ ?_
  clear hK K
  refine Walk.seq (Walk.seq (Walk.region' rfl fun K hK => ?_))
  simp only [go_sem, seval, c101]
  refine hK _ ?_
  clear hK K
  refine Walk.block (Walk.loop ?_)
  refine Walk.weaken ⟨[(1, .box 1 0), (2, .box 2 0), (6, .box 6 0), (22, .arr 1005 0 v41.1.length), (23, .d (.int .i64 (v41.1.length : Int))), (24, .d (.int .i64 0))], [(1, some (.box [.d (.sl (List.map iD v1)), .d (.sl (List.map Row.D v2))])), (2, some (.box [.d (.bool false), .nils, .d (.int .i64 0), .nils])), (6, some (.box [.d (.bool false), .nils, .d (.int .i64 0), .nils])), (1005, some (.arr 22 1 (List.map (lD iD) v41.1)))]⟩ (by simp [c101] <;> omega) (by simp [c101] <;> omega) ?_
  refine Walk.nil2d [(1, .box 1 0), (2, .box 2 0), (6, .box 6 0), (22, .arr 1005 0 v41.1.length), (23, .d (.int .i64 (v41.1.length : Int))), (24, .d (.int .i64 0))] [(1, some (.box [.d (.sl (List.map iD v1)), .d (.sl (List.map Row.D v2))])), (2, some (.box [.d (.bool false), .nils, .d (.int .i64 0), .nils])), (6, some (.box [.d (.bool false), .d (.sl (List.map iD [])), .d (.int .i64 0), .nils])), (1005, some (.arr 22 1 (List.map (lD iD) v41.1)))] (by simp) (by simp) ?_
  refine Walk.weaken ⟨[(1, .box 1 0), (2, .box 2 0), (6, .box 6 0), (22, .arr 1005 0 v41.1.length), (23, .d (.int .i64 (v41.1.length : Int))), (24, .d (.int .i64 0))], [(1, some (.box [.d (.sl (List.map iD v1)), .d (.sl (List.map Row.D v2))])), (2, some (.box [.d (.bool false), .nils, .d (.int .i64 0), .nils])), (6, some (.box [.d (.bool false), .d (.sl (List.map iD [])), .d (.int .i64 0), .nils])), (1005, some (.arr 22 1 (List.map (lD iD) v41.1)))]⟩ (by simp [c101] <;> omega) (by simp [c101] <;> omega) ?_
  refine Walk.iter (σ := Int × Bool × List Int × Int) (fun g => ⟨[(1, .box 1 0), (2, .box 2 0), (6, .box 6 0), (22, .arr 1005 0 v41.1.length), (23, .d (.int .i64 (v41.1.length : Int))), (24, .d (.int .i64 g.1))], [(1, some (.box [.d (.sl (List.map iD v1)), .d (.sl (List.map Row.D v2))])), (2, some (.box [.d (.bool false), .nils, .d (.int .i64 0), .nils])), (6, some (.box [.d (.bool g.2.1), .d (.sl (List.map iD g.2.2.1)), .d (.int .i64 g.2.2.2), .nils])), (1005, some (.arr 22 1 (List.map (lD iD) v41.1)))]⟩) (fun g : Int × Bool × List Int × Int => assembly_Solve_l0 v41 v1 v2 g.1 g.2.1 g.2.2.1 g.2.2.2) _ (fun g y193 hx ih176 hr177 => ?_) (0, false, [], 0) hx
  obtain ⟨v64, v65, v66, v67⟩ := g
  unfold assembly_Solve_l0 at hx
  try dsimp only at hx ⊢
  refine Walk.seq (Walk.region' rfl fun K hK => ?_)
  simp only [go_sem, seval, c101]
  refine hK _ ?_
  clear hK K
  refine Walk.seq (Walk.condO rfl hx (fun c179 hx => ?_) (fun c179 hx => ?_))
  · refine Walk.skip (Walk.seq (Walk.block (Walk.seq (Walk.region' rfl fun K hK => ?_))))
    obtain ⟨v70, r180, a181, b182, c183, hx⟩ := rd_elim hx
    simp only [go_sem, seval, c101, c179, a181, b182, c183]
    repeat refine And.intro (by first | omega | (simp; done) | (simp; omega)) ?_
    refine hK _ ?_
    clear hK K
    refine Walk.seq (Walk.region' rfl fun K hK => ?_)
    obtain ⟨v71, h184, hx⟩ := bind_elim hx
    simp only [go_sem, seval, c101, c179, a181, b182, c183]
    refine VCl.pure rfl (by simp only [go_sem, seval, c101, c179, a181, b182, c183]; try simp) (blueprint_Cost_ok v1 v2 v70 _ h184) (by simp only [go_sem, seval, c101, c179, a181, b182, c183]; try simp) (by simp only [go_sem, seval, c101, c179, a181, b182, c183]; try simp) (by simp only [go_sem, seval, c101, c179, a181, b182, c183]; try simp) (by simp only [go_sem, seval, c101, c179, a181, b182, c183]; try simp) (by simp only [go_sem, seval, c101, c179, a181, b182, c183]; try simp) (by simp only [go_sem, seval, c101, c179, a181, b182, c183]; try simp) ?_
    simp only [go_sem, seval, c101, c179, a181, b182, c183]
    refine hK _ ?_
    clear hK K
    refine Walk.seq (Walk.region' rfl fun K hK => ?_)
    simp only [go_sem, seval, c101, c179, a181, b182, c183]
    refine VGdO hx (fun g185 hx => ?_) (fun g185 hx => ?_)
    · simp only [go_sem, seval, c101, c179, a181, b182, c183, g185]
      refine hK _ ?_
      clear hK K
      refine Walk.condT rfl (Walk.region' rfl fun K hK => ?_)
      simp only [go_sem, seval, c101, c179, a181, b182, c183, g185]
      refine hK _ ?_
      clear hK K
      refine Walk.inBlock (Walk.region' rfl fun K hK => ?_)
      simp only [go_sem, seval, c101, c179, a181, b182, c183, g185]
      refine hK _ ?_
      clear hK K
      exact Walk.weaken _ (by simp [c101, c179, a181, b182, c183, g185] <;> omega) (by simp [c101, c179, a181, b182, c183, g185] <;> omega) (ih176 _ (cont_elim hx))
    simp only [go_sem, seval, c101, c179, a181, b182, c183, g185]
    refine hK _ ?_
    clear hK K
    refine Walk.condO rfl hx (fun c186 hx => ?_) (fun c186 hx => ?_)
    · refine Walk.region' rfl fun K hK => ?_
      simp only [go_sem, seval, c101, c179, a181, b182, c183, g185, c186]
      refine hK _ ?_
      clear hK K
      refine Walk.inBlock (Walk.region' rfl fun K hK => ?_)
      simp only [go_sem, seval, c101, c179, a181, b182, c183, g185, c186]
      refine hK _ ?_
      clear hK K
      exact Walk.weaken _ (by simp [c101, c179, a181, b182, c183, g185, c186] <;> omega) (by simp [c101, c179, a181, b182, c183, g185, c186] <;> omega) (ih176 _ (cont_elim hx))
    refine Walk.skip (Walk.inBlock (Walk.region' rfl fun K hK => ?_))
    simp only [go_sem, seval, c101, c179, a181, b182, c183, g185, c186]
    refine hK _ ?_
    clear hK K
    exact Walk.weaken _ (by simp [c101, c179, a181, b182, c183, g185, c186] <;> omega) (by simp [c101, c179, a181, b182, c183, g185, c186] <;> omega) (ih176 _ (cont_elim hx))
  refine Walk.exit rfl ?_
  obtain ⟨z187, e188, hx⟩ := exit_elim hx
  rw [hr177 z187 e188] at hx
  refine Walk.seq (Walk.region' rfl fun K hK => ?_)
  obtain ⟨v72, h189, hx⟩ := bind_elim hx
  have w190 := ((slices_Repeat_int_ok [-1] (v1.length : Int) _ h189).swap 102000 1006)
  simp only [renE, renL, AV.ren, AV.rens, AObj.ren, swp, Option.map_some, reduceIte, Nat.reduceEqDiff] at w190
  simp only [go_sem, seval, c101, c179]
  refine VCl.lent rfl (by simp only [go_sem, seval, c101, c179]; try simp) (w190) (by simp [c101, c179]) (by simp [c101, c179]) (by simp [c101, c179]) (by simp [c101, c179]) (by simp [c101, c179]) (by simp [c101, c179]) (by simp [c101, c179]) ?_
  simp only [go_sem, seval, c101, c179]
  refine hK _ ?_
  clear hK K
  refine Walk.weaken ⟨[(1, .box 1 0), (2, .box 2 0), (6, .box 6 0), (11, .box 11 0)], [(1, some (.box [.d (.sl (List.map iD v1)), .d (.sl (List.map Row.D v2))])), (2, some (.box [.d (.bool false), .nils, .d (.int .i64 0), .nils])), (6, some (.box [.d (.bool v65), .d (.sl (List.map iD v66)), .d (.int .i64 v67), .nils])), (11, some (.box [.arr 1006 0 v72.length])), (1006, some (.arr 3 1 (List.map iD v72)))]⟩ (by simp [c101, c179] <;> omega) (by simp [c101, c179] <;> omega) ?_
  refine Walk.seq (Walk.region' rfl fun K hK => ?_)
  simp only [go_sem, seval, c101, c179]
  refine hK _ ?_
  clear hK K
  refine Walk.seq (Walk.region' rfl fun K hK => ?_)
  simp only [go_sem, seval, c101, c179]
  refine hK _ ?_
  clear hK K
  refine Walk.seq (Walk.region' rfl fun K hK => ?_)
  obtain ⟨v73, h191, hx⟩ := bind_elim hx
  have w192 := ((((((assembly_Solve_1_ok 0 0 v65 v66 v67 v1 v2 v72 _ h191).swap 0 6).swap 2 11).swap 3 1006).swap 4 12).swap 2000 1007)
  simp only [renE, renL, AV.ren, AV.rens, AObj.ren, swp, Option.map_some, reduceIte, Nat.reduceEqDiff] at w192
  simp only [go_sem, seval, c101, c179]
  refine VCl.sub [(6, some (.box [.d (.bool v65), .d (.sl (List.map iD v66)), .d (.int .i64 v67), .nils])), (1, some (.box [.d (.sl (List.map iD v1)), .d (.sl (List.map Row.D v2))])), (11, some (.box [.arr 1006 0 v72.length])), (1006, some (.arr 3 1 (List.map iD v72))), (12, some (.box [.fn 46 [.box 6 0, .box 1 0, .box 11 0, .box 12 0]]))] [] rfl (by simp only [go_sem, seval, AV.viewXs, AV.viewX, avD, c101, c179]; try simp) (w192) (by simp [c101, c179]) (by simp [c101, c179]) (by simp [c101, c179]) (by simp [c101, c179]) (by simp [c101, c179]) (by simp [c101, c179]) (by simp [c101, c179]) (by simp [c101, c179]) (by simp [c101, c179]) (by simp [c101, c179]) ?_
  simp only [go_sem, seval, c101, c179]
  refine hK _ ?_
  clear hK K
  refine Walk.weaken ⟨[(2, .box 2 0), (6, .box 6 0)], [(2, some (.box [.d (.bool false), .nils, .d (.int .i64 0), .nils])), (6, some (.box [.d (.bool v73.2.1), .d (.sl (List.map iD v66)), .d (.int .i64 v67), .arr 1007 0 v73.2.2.length])), (1007, some (.arr 86 7 (List.map Node.D v73.2.2)))]⟩ (by simp [c101, c179] <;> omega) (by simp [c101, c179] <;> omega) ?_
  refine Walk.seq (Walk.region' rfl fun K hK => ?_)
  simp only [go_sem, seval, c101, c179]
  refine hK _ ?_
  clear hK K
  refine Walk.weaken ⟨[(2, .box 2 0), (3, .d (.int .i64 0))], [(2, some (.box [.d (.bool v73.2.1), .d (.sl (List.map iD v66)), .d (.int .i64 v67), .arr 1007 0 v73.2.2.length])), (1007, some (.arr 86 7 (List.map Node.D v73.2.2)))]⟩ (by simp [c101, c179] <;> omega) (by simp [c101, c179] <;> omega) ?_
  refine Walk.rename 2 2000 (by omega) (by omega) (by simp) (by simp) ?_
  simp only [renE, renL, AV.ren, AV.rens, AObj.ren, swp, Option.map_some, reduceIte, Nat.reduceEqDiff]
  refine Walk.rename 1007 2001 (by omega) (by omega) (by simp) (by simp) ?_
  simp only [renE, renL, AV.ren, AV.rens, AObj.ren, swp, Option.map_some, reduceIte, Nat.reduceEqDiff]
  obtain rfl := Option.some.inj hx
  exact Walk.ret ⟨2000, 0, by simp, by simp, by simp [c101, c179], by simp [c101, c179]⟩
noncomputable def assembly_choice_l0 (v1 : List Int) (v2 : Int) (v11 : Int) : Option ((Int) ⊕ (Bool)) :=
  bif decide (v11 < (v1.length : Int)) then ((rd v1 v11).bind fun v14 => bif decide (v14 < 0) then (exitO (some (false : Bool))) else (bif decide (v14 ≥ v2) then (exitO (some (false : Bool))) else (bif decide (v11 > 0) then ((rd v1 (IntKind.i64.wrap (v11 - 1))).bind fun v15 => bif decide (v15 ≥ v14) then (exitO (some (false : Bool))) else (contO (IntKind.i64.wrap (v11 + 1) : Int))) else (contO (IntKind.i64.wrap (v11 + 1) : Int))))) else (exitO (some (true : Bool)))
noncomputable def assembly_choice (v1 : List Int) (v2 : Int) : Option (Bool) :=
  iter (fun g : Int => assembly_choice_l0 v1 v2 g) 0
theorem assembly_choice_ok (v1 : List Int) (v2 : Int) (r : Bool) (hx : assembly_choice v1 v2 = some r) :
    ACalls Try.prog 53 [.d (.sl (List.map iD v1)), .d (.int .i64 v2)] [] (.d (.bool r)) [] := by
  refine ACalls.of_sem (n := 35) 0 [4] (fn := Try.f53) Try.func53 rfl rfl (.one rfl) rfl (by simp) (by intro i; simp only [hget]; (repeat' split) <;> simp <;> omega) ?_
  unfold assembly_choice at hx
  refine Walk.seq (Walk.region' rfl fun K hK => ?_)
  simp only [go_sem, seval]
  refine hK _ ?_
  clear hK K
  refine Walk.seq (Walk.seq (Walk.region' rfl fun K hK => ?_))
  simp only [go_sem, seval]
  refine hK _ ?_
  clear hK K
  refine Walk.block (Walk.loop ?_)
  refine Walk.weaken ⟨[(0, .d (.sl (List.map iD v1))), (1, .d (.int .i64 v2)), (7, .d (.sl (List.map iD v1))), (8, .d (.int .i64 (v1.length : Int))), (9, .d (.int .i64 0))], []⟩ (by simp <;> omega) (by simp <;> omega) ?_
  refine Walk.iter (σ := Int) (fun g => ⟨[(0, .d (.sl (List.map iD v1))), (1, .d (.int .i64 v2)), (7, .d (.sl (List.map iD v1))), (8, .d (.int .i64 (v1.length : Int))), (9, .d (.int .i64 g))], []⟩) (fun g : Int => assembly_choice_l0 v1 v2 g) _ (fun v11 y87 hx ih63 hr64 => ?_) 0 hx
  unfold assembly_choice_l0 at hx
  try dsimp only at hx ⊢
  refine Walk.seq (Walk.region' rfl fun K hK => ?_)
  simp only [go_sem, seval]
  refine hK _ ?_
  clear hK K
  refine Walk.seq (Walk.condO rfl hx (fun c66 hx => ?_) (fun c66 hx => ?_))
  · refine Walk.skip (Walk.seq (Walk.block (Walk.seq (Walk.region' rfl fun K hK => ?_))))
    obtain ⟨v14, r67, a68, b69, c70, hx⟩ := rd_elim hx
    simp only [go_sem, seval, c66, a68, b69, c70]
    repeat refine And.intro (by first | omega | (simp; done) | (simp; omega)) ?_
    refine hK _ ?_
    clear hK K
    refine Walk.seq (Walk.region' rfl fun K hK => ?_)
    simp only [go_sem, seval, c66, a68, b69, c70]
    refine VGdO hx (fun g71 hx => ?_) (fun g71 hx => ?_)
    · simp only [go_sem, seval, c66, a68, b69, c70, g71]
      refine hK _ ?_
      clear hK K
      refine Walk.condT rfl (Walk.seq (Walk.region' rfl fun K hK => ?_))
      simp only [go_sem, seval, c66, a68, b69, c70, g71]
      refine hK _ ?_
      clear hK K
      obtain ⟨z72, e73, hx⟩ := exit_elim hx
      rw [hr64 z72 e73] at hx
      obtain rfl := Option.some.inj hx
      exact Walk.ret ⟨by simp [c66, a68, b69, c70, g71], by simp [c66, a68, b69, c70, g71]⟩
    simp only [go_sem, seval, c66, a68, b69, c70, g71]
    refine VGdO hx (fun g74 hx => ?_) (fun g74 hx => ?_)
    · simp only [go_sem, seval, c66, a68, b69, c70, g71, g74]
      refine hK _ ?_
      clear hK K
      refine Walk.condT rfl (Walk.seq (Walk.region' rfl fun K hK => ?_))
      simp only [go_sem, seval, c66, a68, b69, c70, g71, g74]
      refine hK _ ?_
      clear hK K
      obtain ⟨z75, e76, hx⟩ := exit_elim hx
      rw [hr64 z75 e76] at hx
      obtain rfl := Option.some.inj hx
      exact Walk.ret ⟨by simp [c66, a68, b69, c70, g71, g74], by simp [c66, a68, b69, c70, g71, g74]⟩
    simp only [go_sem, seval, c66, a68, b69, c70, g71, g74]
    refine VGdO hx (fun g77 hx => ?_) (fun g77 hx => ?_)
    · obtain ⟨v15, r78, a79, b80, c81, hx⟩ := rd_elim hx
      simp only [go_sem, seval, c66, a68, b69, c70, g71, g74, g77, a79, b80, c81]
      repeat refine And.intro (by first | omega | (simp; done) | (simp; omega)) ?_
      refine hK _ ?_
      clear hK K
      refine Walk.condO rfl hx (fun c82 hx => ?_) (fun c82 hx => ?_)
      · refine Walk.seq (Walk.region' rfl fun K hK => ?_)
        simp only [go_sem, seval, c66, a68, b69, c70, g71, g74, g77, a79, b80, c81, c82]
        refine hK _ ?_
        clear hK K
        obtain ⟨z83, e84, hx⟩ := exit_elim hx
        rw [hr64 z83 e84] at hx
        obtain rfl := Option.some.inj hx
        exact Walk.ret ⟨by simp [c66, a68, b69, c70, g71, g74, g77, a79, b80, c81, c82], by simp [c66, a68, b69, c70, g71, g74, g77, a79, b80, c81, c82]⟩
      refine Walk.skip (Walk.inBlock (Walk.region' rfl fun K hK => ?_))
      simp only [go_sem, seval, c66, a68, b69, c70, g71, g74, g77, a79, b80, c81, c82]
      refine hK _ ?_
      clear hK K
      exact Walk.weaken _ (by simp [c66, a68, b69, c70, g71, g74, g77, a79, b80, c81, c82] <;> omega) (by simp [c66, a68, b69, c70, g71, g74, g77, a79, b80, c81, c82] <;> omega) (ih63 _ (cont_elim hx))
    simp only [go_sem, seval, c66, a68, b69, c70, g71, g74, g77]
    refine hK _ ?_
    clear hK K
    refine Walk.condF rfl (Walk.skip (Walk.inBlock (Walk.region' rfl fun K hK => ?_)))
    simp only [go_sem, seval, c66, a68, b69, c70, g71, g74, g77]
    refine hK _ ?_
    clear hK K
    exact Walk.weaken _ (by simp [c66, a68, b69, c70, g71, g74, g77] <;> omega) (by simp [c66, a68, b69, c70, g71, g74, g77] <;> omega) (ih63 _ (cont_elim hx))
  refine Walk.exit rfl ?_
  obtain ⟨z85, e86, hx⟩ := exit_elim hx
  rw [hr64 z85 e86] at hx
  refine Walk.seq (Walk.region' rfl fun K hK => ?_)
  simp only [go_sem, seval, c66]
  refine hK _ ?_
  clear hK K
  obtain rfl := Option.some.inj hx
  exact Walk.ret ⟨by simp [c66], by simp [c66]⟩
noncomputable def assembly_Repeat_l1 (v2 : List Row) (v101 : List Int) (v96 : List Int) (v4 : List Int) (v120 : Int) (v121 : List Row) : Option ((Int × List Row) ⊕ (Int × List Int × List Row)) :=
  bif decide (v120 < (v2.length : Int)) then ((rd v2 v120).bind fun v124 => (slices_Clone_int v124.Coefs).bind fun v125 => chk ((v121.length + 1) * 40 ≤ 140737488355328) (contO ((IntKind.i64.wrap (v120 + 1), (v121 ++ [(Row.mk v125 v124.Least v124.Most)])) : Int × List Row))) else (exitO (chk ((v121.length + 1) * 40 ≤ 140737488355328) (some ((0, v101, (v121 ++ [(Row.mk v96 (-12) (IntKind.i64.wrap ((v4.length : Int) - 1)))])) : Int × List Int × List Row))))
noncomputable def assembly_Repeat_l0 (v4 : List Int) (v1 : List Int) (v2 : List Row) (v95 : Int) (v96 : List Int) : Option ((Int × List Int) ⊕ (Int × List Int × List Row)) :=
  bif decide (v95 < (v4.length : Int)) then ((rd v4 v95).bind fun v99 => (rd v96 v99).bind fun v100 => contO ((IntKind.i64.wrap (v95 + 1), (v96.set (v99).toNat 1)) : Int × List Int)) else (exitO ((slices_Clone_int v1).bind fun v101 => iter (fun g : Int × List Row => assembly_Repeat_l1 v2 v101 v96 v4 g.1 g.2) (0, [])))
noncomputable def assembly_Repeat (v1 : List Int) (v2 : List Row) (v3 : Bool) (v4 : List Int) (v5 : Int) (v6 : List Node) : Option (Int × List Int × List Row) :=
  (blueprint_Valid v1 v2).bind fun v72 => bif !v72 then (some ((1, [], []) : Int × List Int × List Row)) else (bif !v3 then (some ((10, [], []) : Int × List Int × List Row)) else ((assembly_choice v4 (v1.length : Int)).bind fun v75 => bif !v75 then (some ((10, [], []) : Int × List Int × List Row)) else (bif decide ((v2.length : Int) = 60) then (some ((3, [], []) : Int × List Int × List Row)) else ((slices_Repeat_int [-1] (v1.length : Int)).bind fun v76 => iter (fun g : Int × List Int => assembly_Repeat_l0 v4 v1 v2 g.1 g.2) (0, v76)))))
theorem assembly_Repeat_ok (v1 : List Int) (v2 : List Row) (v3 : Bool) (v4 : List Int) (v5 : Int) (v6 : List Node) (r : Int × List Int × List Row) (hx : assembly_Repeat v1 v2 v3 v4 v5 v6 = some r) :
    ACalls Try.prog 25 [.agg [.d (.sl (List.map iD v1)), .d (.sl (List.map Row.D v2))], .agg [.d (.bool v3), .d (.sl (List.map iD v4)), .d (.int .i64 v5), .d (.sl (List.map Node.D v6))]] [] (.tup [.agg [.arr 2001 0 r.2.1.length, .arr 2002 0 r.2.2.length], .d (.int .i64 r.1)]) [(2001, some (.arr 3 1 (List.map iD r.2.1))), (2002, some (.arr 47 3 (List.map Row.D r.2.2)))] := by
  refine ACalls.of_cell2S (n := 88) 0 4 25 5 (fn := Try.f25) Try.func25 rfl rfl rfl rfl (by simp) (by intro i; simp only [hget]; (repeat' split) <;> simp <;> omega) ?_
  unfold assembly_Repeat at hx
  refine Walk.seq (Walk.region' rfl fun K hK => ?_)
  simp only [go_sem, seval]
  refine hK _ ?_
  clear hK K
  refine Walk.seq (Walk.block (Walk.seq (Walk.region' rfl fun K hK => ?_)))
  obtain ⟨v72, h241, hx⟩ := bind_elim hx
  simp only [go_sem, seval]
  refine VCl.pure rfl (by simp only [go_sem, seval]; try simp) (blueprint_Valid_ok v1 v2 _ h241) (by simp only [go_sem, seval]; try simp) (by simp only [go_sem, seval]; try simp) (by simp only [go_sem, seval]; try simp) (by simp only [go_sem, seval]; try simp) (by simp only [go_sem, seval]; try simp) (by simp only [go_sem, seval]; try simp) ?_
  simp only [go_sem, seval]
  refine hK _ ?_
  clear hK K
  refine Walk.condO rfl hx (fun c247 hx => ?_) (fun c247 hx => ?_)
  · refine Walk.seq (Walk.region' rfl fun K hK => ?_)
    simp only [go_sem, seval, c247]
    refine hK _ ?_
    clear hK K
    refine Walk.weaken ⟨[(4, .box 4 0), (5, .d (.int .i64 1))], [(4, some (.box [.nils, .nils]))]⟩ (by simp [c247] <;> omega) (by simp [c247] <;> omega) ?_
    refine Walk.up 2001 3 1 [(4, .box 4 0), (5, .d (.int .i64 1))] [(4, some (.box [.arr 2001 0 0, .nils]))] (by simp) (by simp) (by omega) (by simp) (by simp) (by simp) ?_
    refine Walk.up 2002 47 3 [(4, .box 4 0), (5, .d (.int .i64 1))] [(4, some (.box [.arr 2001 0 0, .arr 2002 0 0])), (2001, some (.arr 3 1 (List.map iD [])))] (by simp) (by simp) (by omega) (by simp) (by simp) (by simp) ?_
    refine Walk.rename 4 2000 (by omega) (by omega) (by simp) (by simp) ?_
    simp only [renE, renL, AV.ren, AV.rens, AObj.ren, swp, Option.map_some, reduceIte, Nat.reduceEqDiff]
    obtain rfl := Option.some.inj hx
    exact Walk.ret ⟨2000, 0, by simp, by simp, by simp [c247], by simp [c247]⟩
  refine Walk.seq (Walk.region' rfl fun K hK => ?_)
  simp only [go_sem, seval, c247]
  refine VGdO hx (fun g252 hx => ?_) (fun g252 hx => ?_)
  · simp only [go_sem, seval, c247, g252]
    refine hK _ ?_
    clear hK K
    refine Walk.condT rfl (Walk.seq (Walk.region' rfl fun K hK => ?_))
    simp only [go_sem, seval, c247, g252]
    refine hK _ ?_
    clear hK K
    refine Walk.weaken ⟨[(4, .box 4 0), (5, .d (.int .i64 10))], [(4, some (.box [.nils, .nils]))]⟩ (by simp [c247, g252] <;> omega) (by simp [c247, g252] <;> omega) ?_
    refine Walk.up 2001 3 1 [(4, .box 4 0), (5, .d (.int .i64 10))] [(4, some (.box [.arr 2001 0 0, .nils]))] (by simp) (by simp) (by omega) (by simp) (by simp) (by simp) ?_
    refine Walk.up 2002 47 3 [(4, .box 4 0), (5, .d (.int .i64 10))] [(4, some (.box [.arr 2001 0 0, .arr 2002 0 0])), (2001, some (.arr 3 1 (List.map iD [])))] (by simp) (by simp) (by omega) (by simp) (by simp) (by simp) ?_
    refine Walk.rename 4 2000 (by omega) (by omega) (by simp) (by simp) ?_
    simp only [renE, renL, AV.ren, AV.rens, AObj.ren, swp, Option.map_some, reduceIte, Nat.reduceEqDiff]
    obtain rfl := Option.some.inj hx
    exact Walk.ret ⟨2000, 0, by simp, by simp, by simp [c247, g252], by simp [c247, g252]⟩
  obtain ⟨v75, h253, hx⟩ := bind_elim hx
  simp only [go_sem, seval, c247, g252]
  refine VCl.pure rfl (by simp only [go_sem, seval, c247, g252]; try simp) (assembly_choice_ok v4 (v1.length : Int) _ h253) (by simp only [go_sem, seval, c247, g252]; try simp) (by simp only [go_sem, seval, c247, g252]; try simp) (by simp only [go_sem, seval, c247, g252]; try simp) (by simp only [go_sem, seval, c247, g252]; try simp) (by simp only [go_sem, seval, c247, g252]; try simp) (by simp only [go_sem, seval, c247, g252]; try simp) ?_
  simp only [go_sem, seval, c247, g252]
  refine hK _ ?_
  clear hK K
  refine Walk.condO rfl hx (fun c256 hx => ?_) (fun c256 hx => ?_)
  · refine Walk.seq (Walk.region' rfl fun K hK => ?_)
    simp only [go_sem, seval, c247, g252, c256]
    refine hK _ ?_
    clear hK K
    refine Walk.weaken ⟨[(4, .box 4 0), (5, .d (.int .i64 10))], [(4, some (.box [.nils, .nils]))]⟩ (by simp [c247, g252, c256] <;> omega) (by simp [c247, g252, c256] <;> omega) ?_
    refine Walk.up 2001 3 1 [(4, .box 4 0), (5, .d (.int .i64 10))] [(4, some (.box [.arr 2001 0 0, .nils]))] (by simp) (by simp) (by omega) (by simp) (by simp) (by simp) ?_
    refine Walk.up 2002 47 3 [(4, .box 4 0), (5, .d (.int .i64 10))] [(4, some (.box [.arr 2001 0 0, .arr 2002 0 0])), (2001, some (.arr 3 1 (List.map iD [])))] (by simp) (by simp) (by omega) (by simp) (by simp) (by simp) ?_
    refine Walk.rename 4 2000 (by omega) (by omega) (by simp) (by simp) ?_
    simp only [renE, renL, AV.ren, AV.rens, AObj.ren, swp, Option.map_some, reduceIte, Nat.reduceEqDiff]
    obtain rfl := Option.some.inj hx
    exact Walk.ret ⟨2000, 0, by simp, by simp, by simp [c247, g252, c256], by simp [c247, g252, c256]⟩
  refine Walk.seq (Walk.region' rfl fun K hK => ?_)
  simp only [go_sem, seval, c247, g252, c256]
  refine hK _ ?_
  clear hK K
  refine Walk.condO rfl hx (fun c259 hx => ?_) (fun c259 hx => ?_)
  · refine Walk.seq (Walk.region' rfl fun K hK => ?_)
    simp only [go_sem, seval, c247, g252, c256, c259]
    refine hK _ ?_
    clear hK K
    refine Walk.weaken ⟨[(4, .box 4 0), (5, .d (.int .i64 3))], [(4, some (.box [.nils, .nils]))]⟩ (by simp [c247, g252, c256, c259] <;> omega) (by simp [c247, g252, c256, c259] <;> omega) ?_
    refine Walk.up 2001 3 1 [(4, .box 4 0), (5, .d (.int .i64 3))] [(4, some (.box [.arr 2001 0 0, .nils]))] (by simp) (by simp) (by omega) (by simp) (by simp) (by simp) ?_
    refine Walk.up 2002 47 3 [(4, .box 4 0), (5, .d (.int .i64 3))] [(4, some (.box [.arr 2001 0 0, .arr 2002 0 0])), (2001, some (.arr 3 1 (List.map iD [])))] (by simp) (by simp) (by omega) (by simp) (by simp) (by simp) ?_
    refine Walk.rename 4 2000 (by omega) (by omega) (by simp) (by simp) ?_
    simp only [renE, renL, AV.ren, AV.rens, AObj.ren, swp, Option.map_some, reduceIte, Nat.reduceEqDiff]
    obtain rfl := Option.some.inj hx
    exact Walk.ret ⟨2000, 0, by simp, by simp, by simp [c247, g252, c256, c259], by simp [c247, g252, c256, c259]⟩
  refine Walk.skip (Walk.inBlock (Walk.seq (Walk.drawn' rfl mixed fun K hK => ?_)))
  obtain ⟨v76, h260, hx⟩ := bind_elim hx
  have w261 := ((slices_Repeat_int_ok [-1] (v1.length : Int) _ h260).swap 102000 1017)
  simp only [renE, renL, AV.ren, AV.rens, AObj.ren, swp, Option.map_some, reduceIte, Nat.reduceEqDiff] at w261
  simp only [go_sem, seval, c247, g252, c256, c259]
  refine VCl.lent rfl (by simp only [go_sem, seval, c247, g252, c256, c259]; try simp) (w261) (by simp [c247, g252, c256, c259]) (by simp [c247, g252, c256, c259]) (by simp [c247, g252, c256, c259]) (by simp [c247, g252, c256, c259]) (by simp [c247, g252, c256, c259]) (by simp [c247, g252, c256, c259]) (by simp [c247, g252, c256, c259]) ?_
  simp only [go_sem, seval, c247, g252, c256, c259]
  refine hK _ _ (by kernel_rfl) (by simp [c247, g252, c256, c259]) ?_
  clear hK K
  refine Walk.weaken ⟨[(2, .box 2 0), (3, .box 3 0), (4, .box 4 0), (6, .box 6 0)], [(2, some (.box [.d (.sl (List.map iD v1)), .d (.sl (List.map Row.D v2))])), (3, some (.box [.d (.bool v3), .d (.sl (List.map iD v4)), .d (.int .i64 v5), .d (.sl (List.map Node.D v6))])), (4, some (.box [.nils, .nils])), (6, some (.box [.arr 1017 0 v76.length, .d (.int .i64 (-12)), .d (.int .i64 (IntKind.i64.wrap ((v4.length : Int) - 1)))])), (1017, some (.arr 3 1 (List.map iD v76)))]⟩ (by simp [c247, g252, c256, c259] <;> omega) (by simp [c247, g252, c256, c259] <;> omega) ?_
  refine Walk.seq (Walk.seq (Walk.region' rfl fun K hK => ?_))
  simp only [go_sem, seval, c247, g252, c256, c259]
  refine hK _ ?_
  clear hK K
  refine Walk.block (Walk.loop ?_)
  refine Walk.weaken ⟨[(2, .box 2 0), (4, .box 4 0), (6, .box 6 0), (48, .d (.sl (List.map iD v4))), (49, .d (.int .i64 (v4.length : Int))), (50, .d (.int .i64 0))], [(2, some (.box [.d (.sl (List.map iD v1)), .d (.sl (List.map Row.D v2))])), (4, some (.box [.nils, .nils])), (6, some (.box [.arr 1017 0 v76.length, .d (.int .i64 (-12)), .d (.int .i64 (IntKind.i64.wrap ((v4.length : Int) - 1)))])), (1017, some (.arr 3 1 (List.map iD v76)))]⟩ (by simp [c247, g252, c256, c259] <;> omega) (by simp [c247, g252, c256, c259] <;> omega) ?_
  refine Walk.iter (σ := Int × List Int) (fun g => ⟨[(2, .box 2 0), (4, .box 4 0), (6, .box 6 0), (48, .d (.sl (List.map iD v4))), (49, .d (.int .i64 (v4.length : Int))), (50, .d (.int .i64 g.1))], [(2, some (.box [.d (.sl (List.map iD v1)), .d (.sl (List.map Row.D v2))])), (4, some (.box [.nils, .nils])), (6, some (.box [.arr 1017 0 g.2.length, .d (.int .i64 (-12)), .d (.int .i64 (IntKind.i64.wrap ((v4.length : Int) - 1)))])), (1017, some (.arr 3 1 (List.map iD g.2)))]⟩) (fun g : Int × List Int => assembly_Repeat_l0 v4 v1 v2 g.1 g.2) _ (fun g y458 hx ih350 hr351 => ?_) (0, v76) hx
  obtain ⟨v95, v96⟩ := g
  unfold assembly_Repeat_l0 at hx
  try dsimp only at hx ⊢
  refine Walk.seq (Walk.region' rfl fun K hK => ?_)
  simp only [go_sem, seval, c247, g252, c256, c259]
  refine hK _ ?_
  clear hK K
  refine Walk.seq (Walk.condO rfl hx (fun c353 hx => ?_) (fun c353 hx => ?_))
  · refine Walk.skip (Walk.seq (Walk.block (Walk.seq (Walk.region' rfl fun K hK => ?_))))
    obtain ⟨v99, r354, a355, b356, c357, hx⟩ := rd_elim hx
    simp only [go_sem, seval, c247, g252, c256, c259, c353, a355, b356, c357]
    repeat refine And.intro (by first | omega | (simp; done) | (simp; omega)) ?_
    refine hK _ ?_
    clear hK K
    refine Walk.region' rfl fun K hK => ?_
    obtain ⟨v100, r358, a359, b360, c361, hx⟩ := rd_elim hx
    simp only [go_sem, seval, c247, g252, c256, c259, c353, a355, b356, c357, a359, b360, c361]
    repeat refine And.intro (by first | omega | (simp; done) | (simp; omega)) ?_
    refine hK _ ?_
    clear hK K
    refine Walk.weaken ⟨[(2, .box 2 0), (4, .box 4 0), (6, .box 6 0), (48, .d (.sl (List.map iD v4))), (49, .d (.int .i64 (v4.length : Int))), (50, .d (.int .i64 v95))], [(2, some (.box [.d (.sl (List.map iD v1)), .d (.sl (List.map Row.D v2))])), (4, some (.box [.nils, .nils])), (6, some (.box [.arr 1017 0 (((v96.set (v99).toNat 1)).length), .d (.int .i64 (-12)), .d (.int .i64 (IntKind.i64.wrap ((v4.length : Int) - 1)))])), (1017, some (.arr 3 1 (List.map iD ((v96.set (v99).toNat 1)))))]⟩ (by simp [c247, g252, c256, c259, c353, a355, b356, c357, a359, b360, c361] <;> omega) (by simp [c247, g252, c256, c259, c353, a355, b356, c357, a359, b360, c361] <;> omega) ?_
    refine Walk.inBlock (Walk.region' rfl fun K hK => ?_)
    simp only [go_sem, seval, c247, g252, c256, c259, c353, a355, b356, c357, a359, b360, c361]
    refine hK _ ?_
    clear hK K
    exact Walk.weaken _ (by simp [c247, g252, c256, c259, c353, a355, b356, c357, a359, b360, c361] <;> omega) (by simp [c247, g252, c256, c259, c353, a355, b356, c357, a359, b360, c361] <;> omega) (ih350 _ (cont_elim hx))
  refine Walk.exit rfl ?_
  obtain ⟨z362, e363, hx⟩ := exit_elim hx
  rw [hr351 z362 e363] at hx
  refine Walk.seq (Walk.region' rfl fun K hK => ?_)
  obtain ⟨v101, h364, hx⟩ := bind_elim hx
  have w365 := ((slices_Clone_int_ok v1 _ h364).swap 2000 1018)
  simp only [renE, renL, AV.ren, AV.rens, AObj.ren, swp, Option.map_some, reduceIte, Nat.reduceEqDiff] at w365
  simp only [go_sem, seval, c247, g252, c256, c259, c353]
  refine VCl.pure rfl (by simp only [go_sem, seval, c247, g252, c256, c259, c353]; try simp) (w365) (by simp only [go_sem, seval, c247, g252, c256, c259, c353]; try simp) (by simp only [go_sem, seval, c247, g252, c256, c259, c353]; try simp) (by simp only [go_sem, seval, c247, g252, c256, c259, c353]; try simp) (by simp only [go_sem, seval, c247, g252, c256, c259, c353]; try simp) (by simp only [go_sem, seval, c247, g252, c256, c259, c353]; try simp) (by simp only [go_sem, seval, c247, g252, c256, c259, c353]; try simp) ?_
  simp only [go_sem, seval, c247, g252, c256, c259, c353]
  refine hK _ ?_
  clear hK K
  refine Walk.weaken ⟨[(2, .box 2 0), (4, .box 4 0), (6, .box 6 0), (9, .box 9 0)], [(2, some (.box [.d (.sl (List.map iD v1)), .d (.sl (List.map Row.D v2))])), (4, some (.box [.nils, .nils])), (6, some (.box [.arr 1017 0 v96.length, .d (.int .i64 (-12)), .d (.int .i64 (IntKind.i64.wrap ((v4.length : Int) - 1)))])), (9, some (.box [.arr 1018 0 v101.length, .nils])), (1017, some (.arr 3 1 (List.map iD v96))), (1018, some (.arr 3 1 (List.map iD v101)))]⟩ (by simp [c247, g252, c256, c259, c353] <;> omega) (by simp [c247, g252, c256, c259, c353] <;> omega) ?_
  refine Walk.seq (Walk.seq (Walk.region' rfl fun K hK => ?_))
  simp only [go_sem, seval, c247, g252, c256, c259, c353]
  refine hK _ ?_
  clear hK K
  refine Walk.block (Walk.loop ?_)
  refine Walk.weaken ⟨[(4, .box 4 0), (6, .box 6 0), (9, .box 9 0), (64, .d (.sl (List.map Row.D v2))), (65, .d (.int .i64 (v2.length : Int))), (66, .d (.int .i64 0))], [(4, some (.box [.nils, .nils])), (6, some (.box [.arr 1017 0 v96.length, .d (.int .i64 (-12)), .d (.int .i64 (IntKind.i64.wrap ((v4.length : Int) - 1)))])), (9, some (.box [.arr 1018 0 v101.length, .nils])), (1017, some (.arr 3 1 (List.map iD v96))), (1018, some (.arr 3 1 (List.map iD v101)))]⟩ (by simp [c247, g252, c256, c259, c353] <;> omega) (by simp [c247, g252, c256, c259, c353] <;> omega) ?_
  refine Walk.up 1028 47 3 [(4, .box 4 0), (6, .box 6 0), (9, .box 9 0), (64, .d (.sl (List.map Row.D v2))), (65, .d (.int .i64 (v2.length : Int))), (66, .d (.int .i64 0))] [(4, some (.box [.nils, .nils])), (6, some (.box [.arr 1017 0 v96.length, .d (.int .i64 (-12)), .d (.int .i64 (IntKind.i64.wrap ((v4.length : Int) - 1)))])), (9, some (.box [.arr 1018 0 v101.length, .arr 1028 0 0])), (1017, some (.arr 3 1 (List.map iD v96))), (1018, some (.arr 3 1 (List.map iD v101)))] (by simp) (by simp) (by omega) (by simp) (by simp) (by simp) ?_
  refine Walk.weaken ⟨[(4, .box 4 0), (6, .box 6 0), (9, .box 9 0), (64, .d (.sl (List.map Row.D v2))), (65, .d (.int .i64 (v2.length : Int))), (66, .d (.int .i64 0))], [(4, some (.box [.nils, .nils])), (6, some (.box [.arr 1017 0 v96.length, .d (.int .i64 (-12)), .d (.int .i64 (IntKind.i64.wrap ((v4.length : Int) - 1)))])), (9, some (.box [.arr 1018 0 v101.length, .arr 1028 0 0])), (1017, some (.arr 3 1 (List.map iD v96))), (1018, some (.arr 3 1 (List.map iD v101))), (1028, some (.arr 47 3 (List.map Row.D [])))]⟩ (by simp [c247, g252, c256, c259, c353] <;> omega) (by simp [c247, g252, c256, c259, c353] <;> omega) ?_
  refine Walk.iter (σ := Int × List Row) (fun g => ⟨[(4, .box 4 0), (6, .box 6 0), (9, .box 9 0), (64, .d (.sl (List.map Row.D v2))), (65, .d (.int .i64 (v2.length : Int))), (66, .d (.int .i64 g.1))], [(4, some (.box [.nils, .nils])), (6, some (.box [.arr 1017 0 v96.length, .d (.int .i64 (-12)), .d (.int .i64 (IntKind.i64.wrap ((v4.length : Int) - 1)))])), (9, some (.box [.arr 1018 0 v101.length, .arr 1028 0 g.2.length])), (1017, some (.arr 3 1 (List.map iD v96))), (1018, some (.arr 3 1 (List.map iD v101))), (1028, some (.arr 47 3 (List.map Row.D g.2)))]⟩) (fun g : Int × List Row => assembly_Repeat_l1 v2 v101 v96 v4 g.1 g.2) _ (fun g y457 hx ih443 hr444 => ?_) (0, []) hx
  obtain ⟨v120, v121⟩ := g
  unfold assembly_Repeat_l1 at hx
  try dsimp only at hx ⊢
  refine Walk.seq (Walk.region' rfl fun K hK => ?_)
  simp only [go_sem, seval, c247, g252, c256, c259, c353]
  refine hK _ ?_
  clear hK K
  refine Walk.seq (Walk.condO rfl hx (fun c446 hx => ?_) (fun c446 hx => ?_))
  · refine Walk.skip (Walk.seq (Walk.block (Walk.seq (Walk.region' rfl fun K hK => ?_))))
    obtain ⟨v124, r447, a448, b449, c450, hx⟩ := rd_elim hx
    simp only [go_sem, seval, c247, g252, c256, c259, c353, c446, a448, b449, c450]
    repeat refine And.intro (by first | omega | (simp; done) | (simp; omega)) ?_
    refine hK _ ?_
    clear hK K
    refine Walk.seq (Walk.region' rfl fun K hK => ?_)
    obtain ⟨v125, h451, hx⟩ := bind_elim hx
    have w452 := ((slices_Clone_int_ok v124.Coefs _ h451).swap 2000 1030)
    simp only [renE, renL, AV.ren, AV.rens, AObj.ren, swp, Option.map_some, reduceIte, Nat.reduceEqDiff] at w452
    simp only [go_sem, seval, c247, g252, c256, c259, c353, c446, a448, b449, c450]
    refine VCl.pure rfl (by simp only [go_sem, seval, c247, g252, c256, c259, c353, c446, a448, b449, c450]; try simp) (w452) (by simp only [go_sem, seval, c247, g252, c256, c259, c353, c446, a448, b449, c450]; try simp) (by simp only [go_sem, seval, c247, g252, c256, c259, c353, c446, a448, b449, c450]; try simp) (by simp only [go_sem, seval, c247, g252, c256, c259, c353, c446, a448, b449, c450]; try simp) (by simp only [go_sem, seval, c247, g252, c256, c259, c353, c446, a448, b449, c450]; try simp) (by simp only [go_sem, seval, c247, g252, c256, c259, c353, c446, a448, b449, c450]; try simp) (by simp only [go_sem, seval, c247, g252, c256, c259, c353, c446, a448, b449, c450]; try simp) ?_
    simp only [go_sem, seval, c247, g252, c256, c259, c353, c446, a448, b449, c450]
    refine hK _ ?_
    clear hK K
    refine Walk.weaken ⟨[(4, .box 4 0), (6, .box 6 0), (9, .box 9 0), (11, .box 11 0), (64, .d (.sl (List.map Row.D v2))), (65, .d (.int .i64 (v2.length : Int))), (66, .d (.int .i64 v120))], [(4, some (.box [.nils, .nils])), (6, some (.box [.arr 1017 0 v96.length, .d (.int .i64 (-12)), .d (.int .i64 (IntKind.i64.wrap ((v4.length : Int) - 1)))])), (9, some (.box [.arr 1018 0 v101.length, .arr 1028 0 v121.length])), (11, some (.box [.arr 1030 0 v125.length, .d (.int .i64 v124.Least), .d (.int .i64 v124.Most)])), (1017, some (.arr 3 1 (List.map iD v96))), (1018, some (.arr 3 1 (List.map iD v101))), (1028, some (.arr 47 3 (List.map Row.D v121))), (1030, some (.arr 3 1 (List.map iD v125)))]⟩ (by simp [c247, g252, c256, c259, c353, c446, a448, b449, c450] <;> omega) (by simp [c247, g252, c256, c259, c353, c446, a448, b449, c450] <;> omega) ?_
    refine Walk.region' rfl fun K hK => ?_
    obtain ⟨k453, hx⟩ := chk_elim hx
    simp only [go_sem, seval, c247, g252, c256, c259, c353, c446, a448, b449, c450, k453]
    repeat refine And.intro (by first | omega | (simp; done) | (simp; omega)) ?_
    refine hK _ ?_
    clear hK K
    refine Walk.weaken ⟨[(4, .box 4 0), (6, .box 6 0), (9, .box 9 0), (64, .d (.sl (List.map Row.D v2))), (65, .d (.int .i64 (v2.length : Int))), (66, .d (.int .i64 v120))], [(4, some (.box [.nils, .nils])), (6, some (.box [.arr 1017 0 v96.length, .d (.int .i64 (-12)), .d (.int .i64 (IntKind.i64.wrap ((v4.length : Int) - 1)))])), (9, some (.box [.arr 1018 0 v101.length, .arr 1028 0 (((v121 ++ [(Row.mk v125 v124.Least v124.Most)])).length)])), (1017, some (.arr 3 1 (List.map iD v96))), (1018, some (.arr 3 1 (List.map iD v101))), (1028, some (.arr 47 3 (List.map Row.D ((v121 ++ [(Row.mk v125 v124.Least v124.Most)])))))]⟩ (by simp [c247, g252, c256, c259, c353, c446, a448, b449, c450, k453] <;> omega) (by simp [c247, g252, c256, c259, c353, c446, a448, b449, c450, k453] <;> omega) ?_
    refine Walk.inBlock (Walk.region' rfl fun K hK => ?_)
    simp only [go_sem, seval, c247, g252, c256, c259, c353, c446, a448, b449, c450, k453]
    refine hK _ ?_
    clear hK K
    exact Walk.weaken _ (by simp [c247, g252, c256, c259, c353, c446, a448, b449, c450, k453] <;> omega) (by simp [c247, g252, c256, c259, c353, c446, a448, b449, c450, k453] <;> omega) (ih443 _ (cont_elim hx))
  refine Walk.exit rfl ?_
  obtain ⟨z454, e455, hx⟩ := exit_elim hx
  rw [hr444 z454 e455] at hx
  refine Walk.seq (Walk.region' rfl fun K hK => ?_)
  obtain ⟨k456, hx⟩ := chk_elim hx
  simp only [go_sem, seval, c247, g252, c256, c259, c353, c446, k456]
  repeat refine And.intro (by first | omega | (simp; done) | (simp; omega)) ?_
  refine hK _ ?_
  clear hK K
  refine Walk.weaken ⟨[(4, .box 4 0), (9, .box 9 0)], [(4, some (.box [.nils, .nils])), (9, some (.box [.arr 1018 0 v101.length, .arr 1028 0 (((v121 ++ [(Row.mk v96 (-12) (IntKind.i64.wrap ((v4.length : Int) - 1)))])).length)])), (1018, some (.arr 3 1 (List.map iD v101))), (1028, some (.arr 47 3 (List.map Row.D ((v121 ++ [(Row.mk v96 (-12) (IntKind.i64.wrap ((v4.length : Int) - 1)))])))))]⟩ (by simp [c247, g252, c256, c259, c353, c446, k456] <;> omega) (by simp [c247, g252, c256, c259, c353, c446, k456] <;> omega) ?_
  refine Walk.seq (Walk.region' rfl fun K hK => ?_)
  simp only [go_sem, seval, c247, g252, c256, c259, c353, c446, k456]
  refine hK _ ?_
  clear hK K
  refine Walk.weaken ⟨[(4, .box 4 0), (5, .d (.int .i64 0))], [(4, some (.box [.arr 1018 0 v101.length, .arr 1028 0 (((v121 ++ [(Row.mk v96 (-12) (IntKind.i64.wrap ((v4.length : Int) - 1)))])).length)])), (1018, some (.arr 3 1 (List.map iD v101))), (1028, some (.arr 47 3 (List.map Row.D ((v121 ++ [(Row.mk v96 (-12) (IntKind.i64.wrap ((v4.length : Int) - 1)))])))))]⟩ (by simp [c247, g252, c256, c259, c353, c446, k456] <;> omega) (by simp [c247, g252, c256, c259, c353, c446, k456] <;> omega) ?_
  refine Walk.rename 4 2000 (by omega) (by omega) (by simp) (by simp) ?_
  simp only [renE, renL, AV.ren, AV.rens, AObj.ren, swp, Option.map_some, reduceIte, Nat.reduceEqDiff]
  refine Walk.rename 1018 2001 (by omega) (by omega) (by simp) (by simp) ?_
  simp only [renE, renL, AV.ren, AV.rens, AObj.ren, swp, Option.map_some, reduceIte, Nat.reduceEqDiff]
  refine Walk.rename 1028 2002 (by omega) (by omega) (by simp) (by simp) ?_
  simp only [renE, renL, AV.ren, AV.rens, AObj.ren, swp, Option.map_some, reduceIte, Nat.reduceEqDiff]
  obtain rfl := Option.some.inj hx
  exact Walk.ret ⟨2000, 0, by simp, by simp, by simp [c247, g252, c256, c259, c353, c446, k456], by simp [c247, g252, c256, c259, c353, c446, k456]⟩
noncomputable def blueprint_Meets_l0 (v2 : List Row) (v3 : List Int) (v22 : Int) : Option ((Int) ⊕ (Bool)) :=
  bif decide (v22 < (v2.length : Int)) then ((rd v2 v22).bind fun v25 => (blueprint_sum v25.Coefs v3).bind fun v26 => bif decide (v26 < v25.Least) then (exitO (some (false : Bool))) else (bif decide (v26 > v25.Most) then (exitO (some (false : Bool))) else (contO (IntKind.i64.wrap (v22 + 1) : Int)))) else (exitO (some (true : Bool)))
noncomputable def blueprint_Meets (v1 : List Int) (v2 : List Row) (v3 : List Int) : Option (Bool) :=
  (blueprint_Valid v1 v2).bind fun v18 => bif !v18 then (some (false : Bool)) else ((blueprint_choice v3 (v1.length : Int)).bind fun v19 => bif !v19 then (some (false : Bool)) else (iter (fun g : Int => blueprint_Meets_l0 v2 v3 g) 0))
theorem blueprint_Meets_ok (v1 : List Int) (v2 : List Row) (v3 : List Int) (r : Bool) (hx : blueprint_Meets v1 v2 v3 = some r) :
    ACalls Try.prog 29 [.agg [.d (.sl (List.map iD v1)), .d (.sl (List.map Row.D v2))], .d (.sl (List.map iD v3))] [] (.d (.bool r)) [] := by
  refine ACalls.of_sem (n := 41) 0 [4] (fn := Try.f29) Try.func29 rfl rfl (.one rfl) rfl (by simp) (by intro i; simp only [hget]; (repeat' split) <;> simp <;> omega) ?_
  unfold blueprint_Meets at hx
  refine Walk.seq (Walk.region' rfl fun K hK => ?_)
  simp only [go_sem, seval]
  refine hK _ ?_
  clear hK K
  refine Walk.seq (Walk.seq (Walk.region' rfl fun K hK => ?_))
  obtain ⟨v18, h45, hx⟩ := bind_elim hx
  simp only [go_sem, seval]
  refine VCl.pure rfl (by simp only [go_sem, seval]; try simp) (blueprint_Valid_ok v1 v2 _ h45) (by simp only [go_sem, seval]; try simp) (by simp only [go_sem, seval]; try simp) (by simp only [go_sem, seval]; try simp) (by simp only [go_sem, seval]; try simp) (by simp only [go_sem, seval]; try simp) (by simp only [go_sem, seval]; try simp) ?_
  simp only [go_sem, seval]
  refine VGdO hx (fun g46 hx => ?_) (fun g46 hx => ?_)
  · simp only [go_sem, seval, g46]
    refine hK _ ?_
    clear hK K
    refine Walk.condT rfl (Walk.seq (Walk.region' rfl fun K hK => ?_))
    simp only [go_sem, seval, g46]
    refine hK _ ?_
    clear hK K
    obtain rfl := Option.some.inj hx
    exact Walk.ret ⟨by simp [g46], by simp [g46]⟩
  obtain ⟨v19, h47, hx⟩ := bind_elim hx
  simp only [go_sem, seval, g46]
  refine VCl.pure rfl (by simp only [go_sem, seval, g46]; try simp) (blueprint_choice_ok v3 (v1.length : Int) _ h47) (by simp only [go_sem, seval, g46]; try simp) (by simp only [go_sem, seval, g46]; try simp) (by simp only [go_sem, seval, g46]; try simp) (by simp only [go_sem, seval, g46]; try simp) (by simp only [go_sem, seval, g46]; try simp) (by simp only [go_sem, seval, g46]; try simp) ?_
  simp only [go_sem, seval, g46]
  refine hK _ ?_
  clear hK K
  refine Walk.condO rfl hx (fun c49 hx => ?_) (fun c49 hx => ?_)
  · refine Walk.seq (Walk.region' rfl fun K hK => ?_)
    simp only [go_sem, seval, g46, c49]
    refine hK _ ?_
    clear hK K
    obtain rfl := Option.some.inj hx
    exact Walk.ret ⟨by simp [g46, c49], by simp [g46, c49]⟩
  refine Walk.skip (Walk.seq (Walk.seq (Walk.region' rfl fun K hK => ?_)))
  simp only [go_sem, seval, g46, c49]
  refine hK _ ?_
  clear hK K
  refine Walk.block (Walk.loop ?_)
  refine Walk.weaken ⟨[(1, .d (.sl (List.map iD v3))), (20, .d (.sl (List.map Row.D v2))), (21, .d (.int .i64 (v2.length : Int))), (22, .d (.int .i64 0))], []⟩ (by simp [g46, c49] <;> omega) (by simp [g46, c49] <;> omega) ?_
  refine Walk.iter (σ := Int) (fun g => ⟨[(1, .d (.sl (List.map iD v3))), (20, .d (.sl (List.map Row.D v2))), (21, .d (.int .i64 (v2.length : Int))), (22, .d (.int .i64 g))], []⟩) (fun g : Int => blueprint_Meets_l0 v2 v3 g) _ (fun v22 y85 hx ih68 hr69 => ?_) 0 hx
  unfold blueprint_Meets_l0 at hx
  try dsimp only at hx ⊢
  refine Walk.seq (Walk.region' rfl fun K hK => ?_)
  simp only [go_sem, seval, g46, c49]
  refine hK _ ?_
  clear hK K
  refine Walk.seq (Walk.condO rfl hx (fun c71 hx => ?_) (fun c71 hx => ?_))
  · refine Walk.skip (Walk.seq (Walk.block (Walk.seq (Walk.region' rfl fun K hK => ?_))))
    obtain ⟨v25, r72, a73, b74, c75, hx⟩ := rd_elim hx
    simp only [go_sem, seval, g46, c49, c71, a73, b74, c75]
    repeat refine And.intro (by first | omega | (simp; done) | (simp; omega)) ?_
    refine hK _ ?_
    clear hK K
    refine Walk.seq (Walk.region' rfl fun K hK => ?_)
    obtain ⟨v26, h76, hx⟩ := bind_elim hx
    simp only [go_sem, seval, g46, c49, c71, a73, b74, c75]
    refine VCl.pure rfl (by simp only [go_sem, seval, g46, c49, c71, a73, b74, c75]; try simp) (blueprint_sum_ok v25.Coefs v3 _ h76) (by simp only [go_sem, seval, g46, c49, c71, a73, b74, c75]; try simp) (by simp only [go_sem, seval, g46, c49, c71, a73, b74, c75]; try simp) (by simp only [go_sem, seval, g46, c49, c71, a73, b74, c75]; try simp) (by simp only [go_sem, seval, g46, c49, c71, a73, b74, c75]; try simp) (by simp only [go_sem, seval, g46, c49, c71, a73, b74, c75]; try simp) (by simp only [go_sem, seval, g46, c49, c71, a73, b74, c75]; try simp) ?_
    simp only [go_sem, seval, g46, c49, c71, a73, b74, c75]
    refine hK _ ?_
    clear hK K
    refine Walk.seq (Walk.region' rfl fun K hK => ?_)
    simp only [go_sem, seval, g46, c49, c71, a73, b74, c75]
    refine VGdO hx (fun g77 hx => ?_) (fun g77 hx => ?_)
    · simp only [go_sem, seval, g46, c49, c71, a73, b74, c75, g77]
      refine hK _ ?_
      clear hK K
      refine Walk.condT rfl (Walk.seq (Walk.region' rfl fun K hK => ?_))
      simp only [go_sem, seval, g46, c49, c71, a73, b74, c75, g77]
      refine hK _ ?_
      clear hK K
      obtain ⟨z78, e79, hx⟩ := exit_elim hx
      rw [hr69 z78 e79] at hx
      obtain rfl := Option.some.inj hx
      exact Walk.ret ⟨by simp [g46, c49, c71, a73, b74, c75, g77], by simp [g46, c49, c71, a73, b74, c75, g77]⟩
    simp only [go_sem, seval, g46, c49, c71, a73, b74, c75, g77]
    refine hK _ ?_
    clear hK K
    refine Walk.condO rfl hx (fun c80 hx => ?_) (fun c80 hx => ?_)
    · refine Walk.seq (Walk.region' rfl fun K hK => ?_)
      simp only [go_sem, seval, g46, c49, c71, a73, b74, c75, g77, c80]
      refine hK _ ?_
      clear hK K
      obtain ⟨z81, e82, hx⟩ := exit_elim hx
      rw [hr69 z81 e82] at hx
      obtain rfl := Option.some.inj hx
      exact Walk.ret ⟨by simp [g46, c49, c71, a73, b74, c75, g77, c80], by simp [g46, c49, c71, a73, b74, c75, g77, c80]⟩
    refine Walk.skip (Walk.inBlock (Walk.region' rfl fun K hK => ?_))
    simp only [go_sem, seval, g46, c49, c71, a73, b74, c75, g77, c80]
    refine hK _ ?_
    clear hK K
    exact Walk.weaken _ (by simp [g46, c49, c71, a73, b74, c75, g77, c80] <;> omega) (by simp [g46, c49, c71, a73, b74, c75, g77, c80] <;> omega) (ih68 _ (cont_elim hx))
  refine Walk.exit rfl ?_
  obtain ⟨z83, e84, hx⟩ := exit_elim hx
  rw [hr69 z83 e84] at hx
  refine Walk.seq (Walk.region' rfl fun K hK => ?_)
  simp only [go_sem, seval, g46, c49, c71]
  refine hK _ ?_
  clear hK K
  obtain rfl := Option.some.inj hx
  exact Walk.ret ⟨by simp [g46, c49, c71], by simp [g46, c49, c71]⟩
noncomputable def optimality_formed (v1 : List Int) (v2 : List Row) (v3 : Int) (v4 : Int) (v5 : Int) (v6 : Int) (v7 : Int) (v8 : Int) (v9 : Int) : Option (Bool) :=
  bif decide (v7 ≥ 0) then (bif decide (v3 = 2) then (some (decide (v7 < (v2.length : Int)) : Bool)) else (bif decide (v3 = 3) then (bif decide (v7 = (-1)) then (bif decide (v8 = 0) then (bif decide (v9 = 1) then (some (true : Bool)) else (bif decide (v7 < (v2.length : Int)) then (bif decide (v8 ≥ (-10000)) then (bif decide (v8 ≤ 10000) then (bif decide (v9 ≥ 1) then (some (decide (v9 ≤ 10000) : Bool)) else (some (false : Bool))) else (some (false : Bool))) else (some (false : Bool))) else (some (false : Bool)))) else (bif decide (v7 < (v2.length : Int)) then (bif decide (v8 ≥ (-10000)) then (bif decide (v8 ≤ 10000) then (bif decide (v9 ≥ 1) then (some (decide (v9 ≤ 10000) : Bool)) else (some (false : Bool))) else (some (false : Bool))) else (some (false : Bool))) else (some (false : Bool)))) else (bif decide (v7 < (v2.length : Int)) then (bif decide (v8 ≥ (-10000)) then (bif decide (v8 ≤ 10000) then (bif decide (v9 ≥ 1) then (some (decide (v9 ≤ 10000) : Bool)) else (some (false : Bool))) else (some (false : Bool))) else (some (false : Bool))) else (some (false : Bool)))) else (some (false : Bool)))) else (bif decide (v3 = 2) then (some (false : Bool)) else (bif decide (v3 = 3) then (bif decide (v7 = (-1)) then (bif decide (v8 = 0) then (bif decide (v9 = 1) then (some (true : Bool)) else (some (false : Bool))) else (some (false : Bool))) else (some (false : Bool))) else (some (false : Bool))))
theorem optimality_formed_ok (v1 : List Int) (v2 : List Row) (v3 : Int) (v4 : Int) (v5 : Int) (v6 : Int) (v7 : Int) (v8 : Int) (v9 : Int) (r : Bool) (hx : optimality_formed v1 v2 v3 v4 v5 v6 v7 v8 v9 = some r) :
    ACalls Try.prog 85 [.agg [.d (.sl (List.map iD v1)), .d (.sl (List.map Row.D v2))], .agg [.d (.int .i64 v3), .d (.int .i64 v4), .d (.int .i64 v5), .d (.int .i64 v6), .d (.int .i64 v7), .d (.int .i64 v8), .d (.int .i64 v9)]] [] (.d (.bool r)) [] := by
  refine ACalls.of_sem (n := 60) 0 [4] (fn := Try.f85) Try.func85 rfl rfl (.one rfl) rfl (by simp) (by intro i; simp only [hget]; (repeat' split) <;> simp <;> omega) ?_
  unfold optimality_formed at hx
  refine Walk.seq (Walk.region' rfl fun K hK => ?_)
  simp only [go_sem, seval]
  refine hK _ ?_
  clear hK K
  refine Walk.seq (Walk.region' rfl fun K hK => ?_)
  simp only [go_sem, seval]
  refine VGdO hx (fun g24 hx => ?_) (fun g24 hx => ?_)
  · simp only [go_sem, seval, g24]
    refine hK _ ?_
    clear hK K
    refine Walk.seq (Walk.seq (Walk.region' rfl fun K hK => ?_))
    simp only [go_sem, seval, g24]
    refine hK _ ?_
    clear hK K
    refine Walk.block (Walk.seq (Walk.region' rfl fun K hK => ?_))
    simp only [go_sem, seval, g24]
    refine hK _ ?_
    clear hK K
    refine Walk.condO rfl hx (fun c25 hx => ?_) (fun c25 hx => ?_)
    · refine Walk.seq (Walk.region' rfl fun K hK => ?_)
      simp only [go_sem, seval, g24, c25]
      refine hK _ ?_
      clear hK K
      obtain rfl := Option.some.inj hx
      exact Walk.ret ⟨by simp [g24, c25], by simp [g24, c25]⟩
    refine Walk.seq (Walk.region' rfl fun K hK => ?_)
    simp only [go_sem, seval, g24, c25]
    refine hK _ ?_
    clear hK K
    refine Walk.condO rfl hx (fun c26 hx => ?_) (fun c26 hx => ?_)
    · refine Walk.seq (Walk.region' rfl fun K hK => ?_)
      simp only [go_sem, seval, g24, c25, c26]
      refine VGdO hx (fun g27 hx => ?_) (fun g27 hx => ?_)
      · simp only [go_sem, seval, g24, c25, c26, g27]
        refine VGdO hx (fun g28 hx => ?_) (fun g28 hx => ?_)
        · simp only [go_sem, seval, g24, c25, c26, g27, g28]
          refine VGdO hx (fun g29 hx => ?_) (fun g29 hx => ?_)
          · simp only [go_sem, seval, g24, c25, c26, g27, g28, g29]
            refine hK _ ?_
            clear hK K
            obtain rfl := Option.some.inj hx
            exact Walk.ret ⟨by simp [g24, c25, c26, g27, g28, g29], by simp [g24, c25, c26, g27, g28, g29]⟩
          simp only [go_sem, seval, g24, c25, c26, g27, g28, g29]
          refine VGdO hx (fun g30 hx => ?_) (fun g30 hx => ?_)
          · simp only [go_sem, seval, g24, c25, c26, g27, g28, g29, g30]
            refine VGdO hx (fun g31 hx => ?_) (fun g31 hx => ?_)
            · simp only [go_sem, seval, g24, c25, c26, g27, g28, g29, g30, g31]
              refine VGdO hx (fun g32 hx => ?_) (fun g32 hx => ?_)
              · simp only [go_sem, seval, g24, c25, c26, g27, g28, g29, g30, g31, g32]
                refine VGdO hx (fun g33 hx => ?_) (fun g33 hx => ?_)
                · simp only [go_sem, seval, g24, c25, c26, g27, g28, g29, g30, g31, g32, g33]
                  refine hK _ ?_
                  clear hK K
                  obtain rfl := Option.some.inj hx
                  exact Walk.ret ⟨by simp [g24, c25, c26, g27, g28, g29, g30, g31, g32, g33], by simp [g24, c25, c26, g27, g28, g29, g30, g31, g32, g33]⟩
                simp only [go_sem, seval, g24, c25, c26, g27, g28, g29, g30, g31, g32, g33]
                refine hK _ ?_
                clear hK K
                obtain rfl := Option.some.inj hx
                exact Walk.ret ⟨by simp [g24, c25, c26, g27, g28, g29, g30, g31, g32, g33], by simp [g24, c25, c26, g27, g28, g29, g30, g31, g32, g33]⟩
              simp only [go_sem, seval, g24, c25, c26, g27, g28, g29, g30, g31, g32]
              refine hK _ ?_
              clear hK K
              obtain rfl := Option.some.inj hx
              exact Walk.ret ⟨by simp [g24, c25, c26, g27, g28, g29, g30, g31, g32], by simp [g24, c25, c26, g27, g28, g29, g30, g31, g32]⟩
            simp only [go_sem, seval, g24, c25, c26, g27, g28, g29, g30, g31]
            refine hK _ ?_
            clear hK K
            obtain rfl := Option.some.inj hx
            exact Walk.ret ⟨by simp [g24, c25, c26, g27, g28, g29, g30, g31], by simp [g24, c25, c26, g27, g28, g29, g30, g31]⟩
          simp only [go_sem, seval, g24, c25, c26, g27, g28, g29, g30]
          refine hK _ ?_
          clear hK K
          obtain rfl := Option.some.inj hx
          exact Walk.ret ⟨by simp [g24, c25, c26, g27, g28, g29, g30], by simp [g24, c25, c26, g27, g28, g29, g30]⟩
        simp only [go_sem, seval, g24, c25, c26, g27, g28]
        refine VGdO hx (fun g34 hx => ?_) (fun g34 hx => ?_)
        · simp only [go_sem, seval, g24, c25, c26, g27, g28, g34]
          refine VGdO hx (fun g35 hx => ?_) (fun g35 hx => ?_)
          · simp only [go_sem, seval, g24, c25, c26, g27, g28, g34, g35]
            refine VGdO hx (fun g36 hx => ?_) (fun g36 hx => ?_)
            · simp only [go_sem, seval, g24, c25, c26, g27, g28, g34, g35, g36]
              refine VGdO hx (fun g37 hx => ?_) (fun g37 hx => ?_)
              · simp only [go_sem, seval, g24, c25, c26, g27, g28, g34, g35, g36, g37]
                refine hK _ ?_
                clear hK K
                obtain rfl := Option.some.inj hx
                exact Walk.ret ⟨by simp [g24, c25, c26, g27, g28, g34, g35, g36, g37], by simp [g24, c25, c26, g27, g28, g34, g35, g36, g37]⟩
              simp only [go_sem, seval, g24, c25, c26, g27, g28, g34, g35, g36, g37]
              refine hK _ ?_
              clear hK K
              obtain rfl := Option.some.inj hx
              exact Walk.ret ⟨by simp [g24, c25, c26, g27, g28, g34, g35, g36, g37], by simp [g24, c25, c26, g27, g28, g34, g35, g36, g37]⟩
            simp only [go_sem, seval, g24, c25, c26, g27, g28, g34, g35, g36]
            refine hK _ ?_
            clear hK K
            obtain rfl := Option.some.inj hx
            exact Walk.ret ⟨by simp [g24, c25, c26, g27, g28, g34, g35, g36], by simp [g24, c25, c26, g27, g28, g34, g35, g36]⟩
          simp only [go_sem, seval, g24, c25, c26, g27, g28, g34, g35]
          refine hK _ ?_
          clear hK K
          obtain rfl := Option.some.inj hx
          exact Walk.ret ⟨by simp [g24, c25, c26, g27, g28, g34, g35], by simp [g24, c25, c26, g27, g28, g34, g35]⟩
        simp only [go_sem, seval, g24, c25, c26, g27, g28, g34]
        refine hK _ ?_
        clear hK K
        obtain rfl := Option.some.inj hx
        exact Walk.ret ⟨by simp [g24, c25, c26, g27, g28, g34], by simp [g24, c25, c26, g27, g28, g34]⟩
      simp only [go_sem, seval, g24, c25, c26, g27]
      refine VGdO hx (fun g38 hx => ?_) (fun g38 hx => ?_)
      · simp only [go_sem, seval, g24, c25, c26, g27, g38]
        refine VGdO hx (fun g39 hx => ?_) (fun g39 hx => ?_)
        · simp only [go_sem, seval, g24, c25, c26, g27, g38, g39]
          refine VGdO hx (fun g40 hx => ?_) (fun g40 hx => ?_)
          · simp only [go_sem, seval, g24, c25, c26, g27, g38, g39, g40]
            refine VGdO hx (fun g41 hx => ?_) (fun g41 hx => ?_)
            · simp only [go_sem, seval, g24, c25, c26, g27, g38, g39, g40, g41]
              refine hK _ ?_
              clear hK K
              obtain rfl := Option.some.inj hx
              exact Walk.ret ⟨by simp [g24, c25, c26, g27, g38, g39, g40, g41], by simp [g24, c25, c26, g27, g38, g39, g40, g41]⟩
            simp only [go_sem, seval, g24, c25, c26, g27, g38, g39, g40, g41]
            refine hK _ ?_
            clear hK K
            obtain rfl := Option.some.inj hx
            exact Walk.ret ⟨by simp [g24, c25, c26, g27, g38, g39, g40, g41], by simp [g24, c25, c26, g27, g38, g39, g40, g41]⟩
          simp only [go_sem, seval, g24, c25, c26, g27, g38, g39, g40]
          refine hK _ ?_
          clear hK K
          obtain rfl := Option.some.inj hx
          exact Walk.ret ⟨by simp [g24, c25, c26, g27, g38, g39, g40], by simp [g24, c25, c26, g27, g38, g39, g40]⟩
        simp only [go_sem, seval, g24, c25, c26, g27, g38, g39]
        refine hK _ ?_
        clear hK K
        obtain rfl := Option.some.inj hx
        exact Walk.ret ⟨by simp [g24, c25, c26, g27, g38, g39], by simp [g24, c25, c26, g27, g38, g39]⟩
      simp only [go_sem, seval, g24, c25, c26, g27, g38]
      refine hK _ ?_
      clear hK K
      obtain rfl := Option.some.inj hx
      exact Walk.ret ⟨by simp [g24, c25, c26, g27, g38], by simp [g24, c25, c26, g27, g38]⟩
    refine Walk.skip (Walk.inBlock (Walk.seq (Walk.region' rfl fun K hK => ?_)))
    simp only [go_sem, seval, g24, c25, c26]
    refine hK _ ?_
    clear hK K
    obtain rfl := Option.some.inj hx
    exact Walk.ret ⟨by simp [g24, c25, c26], by simp [g24, c25, c26]⟩
  simp only [go_sem, seval, g24]
  refine hK _ ?_
  clear hK K
  refine Walk.seq (Walk.seq (Walk.region' rfl fun K hK => ?_))
  simp only [go_sem, seval, g24]
  refine hK _ ?_
  clear hK K
  refine Walk.block (Walk.seq (Walk.region' rfl fun K hK => ?_))
  simp only [go_sem, seval, g24]
  refine hK _ ?_
  clear hK K
  refine Walk.condO rfl hx (fun c42 hx => ?_) (fun c42 hx => ?_)
  · refine Walk.seq (Walk.region' rfl fun K hK => ?_)
    simp only [go_sem, seval, g24, c42]
    refine hK _ ?_
    clear hK K
    obtain rfl := Option.some.inj hx
    exact Walk.ret ⟨by simp [g24, c42], by simp [g24, c42]⟩
  refine Walk.seq (Walk.region' rfl fun K hK => ?_)
  simp only [go_sem, seval, g24, c42]
  refine hK _ ?_
  clear hK K
  refine Walk.condO rfl hx (fun c43 hx => ?_) (fun c43 hx => ?_)
  · refine Walk.seq (Walk.region' rfl fun K hK => ?_)
    simp only [go_sem, seval, g24, c42, c43]
    refine VGdO hx (fun g44 hx => ?_) (fun g44 hx => ?_)
    · simp only [go_sem, seval, g24, c42, c43, g44]
      refine VGdO hx (fun g45 hx => ?_) (fun g45 hx => ?_)
      · simp only [go_sem, seval, g24, c42, c43, g44, g45]
        refine VGdO hx (fun g46 hx => ?_) (fun g46 hx => ?_)
        · simp only [go_sem, seval, g24, c42, c43, g44, g45, g46]
          refine hK _ ?_
          clear hK K
          obtain rfl := Option.some.inj hx
          exact Walk.ret ⟨by simp [g24, c42, c43, g44, g45, g46], by simp [g24, c42, c43, g44, g45, g46]⟩
        simp only [go_sem, seval, g24, c42, c43, g44, g45, g46]
        refine hK _ ?_
        clear hK K
        obtain rfl := Option.some.inj hx
        exact Walk.ret ⟨by simp [g24, c42, c43, g44, g45, g46], by simp [g24, c42, c43, g44, g45, g46]⟩
      simp only [go_sem, seval, g24, c42, c43, g44, g45]
      refine hK _ ?_
      clear hK K
      obtain rfl := Option.some.inj hx
      exact Walk.ret ⟨by simp [g24, c42, c43, g44, g45], by simp [g24, c42, c43, g44, g45]⟩
    simp only [go_sem, seval, g24, c42, c43, g44]
    refine hK _ ?_
    clear hK K
    obtain rfl := Option.some.inj hx
    exact Walk.ret ⟨by simp [g24, c42, c43, g44], by simp [g24, c42, c43, g44]⟩
  refine Walk.skip (Walk.inBlock (Walk.seq (Walk.region' rfl fun K hK => ?_)))
  simp only [go_sem, seval, g24, c42, c43]
  refine hK _ ?_
  clear hK K
  obtain rfl := Option.some.inj hx
  exact Walk.ret ⟨by simp [g24, c42, c43], by simp [g24, c42, c43]⟩
end Go.AX

