import Derived.Test.YtebcedhhcpibpaaE8
set_option linter.unusedVariables false
set_option linter.unusedSimpArgs false
set_option maxRecDepth 20000
set_option maxHeartbeats 4000000
namespace Go.AX
open Go.Proofs
attribute [local simp] spl_len take_snoc take_cons_drop cons_rep cons_tail iA bA take_set_len idsL_rep idsL_iA idsL_bA idsL_sA idsL_set_mem idsL_sub sA_def List.map_replicate frVs_setS frVs_self frV_arr take_map_len subE subH eget hget upE upV upH upO_refl upO_box upVs freshE freshH freshO AV.ids AV.idsL ids_box ids_arr ids_pre idsL_room frE frV_refl frV_arr frH frO_refl frO_box frVs newOk evalA AV.viewXs AV.viewX AV.viewXP AV.viewXPs AV.viewPs AV.viewP AV.flat AV.flatL D.flat arrsOnly flatObjs newNames subOf closedIn allSome dstOk newOrOld avD avDp zv_i64 zv_u8 zv_bool zv_nils zv_nilp zv_str retAV aLoad cut TI.isAgg nlE nlH nlO_refl nlO_box nlVs nlV_refl nlV_nil iD uD bD tD lD List.map_set ti1 ti2 ti3 ti4 ti5 ti6 ti7 ti8 ti9 ti10 ti11 ti12 ti13 ti14 ti15 ti16 ti17 ti18 ti19 ti21 ti22 ti23 ti24 ti25 ti26 ti27 ti28 ti29 ti30 ti32 ti33 ti34 ti35 ti36 ti37 ti38 ti40 ti41 ti42 ti43 ti44 ti45 ti46 ti47 ti48 ti49 ti50 ti51 ti52 ti54 ti55 ti56 ti57 ti58 ti59 ti61 ti62 ti63 ti64 ti65 ti66 ti67 ti68 ti69 ti70 ti72 ti73 ti74 ti75 ti76 ti77 ti78 ti79 ti80 ti81 ti82 ti83 ti84 ti85 ti86 ti87 ti89 ti91 ti92 ti93 ti94 ti95 ti96 ti97 ti98 ti99 ti100 ti101 ti103 ti105 ti106 ti107 ti108 ti109 ti110 ti111 ti112 ti113 ti114 ti115 ti117 ti118 ti120 ti121 ti122 ti123 ti124 ti125 ti126 ti127 ti128 ti129 ti130 ti131 ti132 ti133 ti134 ti135 ti136 ti137 ti138 ti139 ti140 Row.D Node.D Part.D TItem.D Ref.D
attribute [local go_sem] V1_none V1_some V_nil V_move V_assign V_pick V_bin V_un V_extract V_makeFunc V_convert V_nilCheck V_fieldAddr V_field V_load V_store V_indexAddr V_index V_slice V_slice0 V_alloc V_box V_build V_buildSlice V_makeSlice V_len V_min V_max V_append V_copy V_call V_guard VGs_some VG_tt VG_ff VG_tf VG_ft VG_u gslot ok fail po so aNew dstOk freshU addLog_none' addLog_some' St.step putL evalA eget hget argE freshE freshO freshH AV.ids AV.idsL AV.ok1 AV.cells ids_box ids_arr liveBox liveArr isArr isObj isBoxB aPick isNilC aNilEq aBin aUn aExtract aMakeFunc aConvert aNilCheck aFieldAddr aField cut aLen aIndexAddr aMin aMax aIndex bnd isInt aSlice aSlice0 aLoad aAlloc aBox aStore splice aMake aMakeBox aCopy cellsOf cellsOfP updIds newIds zv_i64 zv_u8 zv_bool zv_nils zv_nilp cond_bool cond_int TI.isAgg TK.isSl TK.el okL avDps avDp avD List.map_cons List.map_nil List.append_nil List.nil_append List.cons_append List.length_cons List.length_nil List.take_succ_cons List.take_zero List.drop_succ_cons List.drop_zero List.take_nil List.drop_nil List.headD_cons List.getD_cons_zero List.getD_cons_succ List.mem_cons List.not_mem_nil List.getElem?_cons_zero List.getElem?_cons_succ List.toList_toArray Option.getD_some Option.getD_none Option.bind_some Option.bind_none Option.map_some Option.map_none Option.getD Option.toList Nat.zero_add Nat.add_zero Nat.zero_le Nat.le_refl if_true if_false ite_self true_and and_true false_and and_false true_or or_true false_or or_false not_true_eq_false not_false_eq_true ne_eq cond_true cond_false Bool.true_eq_false Bool.false_eq_true forall_const decide_true decide_false implies_true true_implies and_self or_self Nat.succ_ne_zero Int.toNat_natCast Int.natCast_nonneg List.length_map decide_eq_true_eq AV.views AV.view AV.viewPs AV.viewP arrsOnly newNames List.length_append List.append_assoc Bool.not_true Bool.not_false AV.ok2 aBuild fillR fillP aBuildSlice dense elP aAppend esOf esOfP List.forall_mem_cons forall_eq_or_imp forall_eq zD zDp map_take' map_drop' iD uD bD tD lD iD_len uD_len bD_len tD_len lD_len LB Int.cast_ofNat_Int Int.natCast_zero Int.natCast_one head_len all_len List.head?_cons List.head?_nil Bool.not_not eq_self List.take_length zv_str aConv byteOf isByte map_bcell bytes_all str_map cellsEq cellsP AV.kd Bool.and_true Bool.true_and Bool.and_false Bool.false_and spl_map spl_len mkbox_i mkbox_b flat_iD dataL_iA dataL_bA zv_u64 flat_iD' flat_len dataL_tA dataL_ttA spl_mt spl_mtt mkbox_s splice_one take_cons_drop cons_rep cons_tail hd_set hd_set0 List.length_replicate iA bA sA_def List.set_set List.length_set idsL_iA idsL_bA idsL_sA idsL_setE idsL_rep List.append_eq Nat.mul_one ids_pre idsL_room appBox_full appBox_room pre_iA one_iD List.flatten_cons List.flatten_nil ti1 ti2 ti3 ti4 ti5 ti6 ti7 ti8 ti9 ti10 ti11 ti12 ti13 ti14 ti15 ti16 ti17 ti18 ti19 ti21 ti22 ti23 ti24 ti25 ti26 ti27 ti28 ti29 ti30 ti32 ti33 ti34 ti35 ti36 ti37 ti38 ti40 ti41 ti42 ti43 ti44 ti45 ti46 ti47 ti48 ti49 ti50 ti51 ti52 ti54 ti55 ti56 ti57 ti58 ti59 ti61 ti62 ti63 ti64 ti65 ti66 ti67 ti68 ti69 ti70 ti72 ti73 ti74 ti75 ti76 ti77 ti78 ti79 ti80 ti81 ti82 ti83 ti84 ti85 ti86 ti87 ti89 ti91 ti92 ti93 ti94 ti95 ti96 ti97 ti98 ti99 ti100 ti101 ti103 ti105 ti106 ti107 ti108 ti109 ti110 ti111 ti112 ti113 ti114 ti115 ti117 ti118 ti120 ti121 ti122 ti123 ti124 ti125 ti126 ti127 ti128 ti129 ti130 ti131 ti132 ti133 ti134 ti135 ti136 ti137 ti138 ti139 ti140 Row.D Node.D Part.D TItem.D Ref.D Row.D_len Node.D_len Part.D_len TItem.D_len Ref.D_len zs_ zs_48_49_50_51_52_53_54_55_56_57_48_49_50_51_52_53_54_55_56_57_48_49_50_51_52_53_54_55_56_57_48_49_50_51_52_53_54_55_56_57_120 zs_113 zs_116_97_98_9 eqf74_00
noncomputable def law10_samePlan (v1 : Bool) (v2 : List Int) (v3 : Int) (v4 : List Node) (v5 : Bool) (v6 : List Int) (v7 : Int) (v8 : List Node) : Option (Bool) :=
  bif (v1 == v5) then (bif decide (v3 = v7) then ((ref06_Ints v2 v6).bind fun v11 => some (v11 : Bool)) else (some (false : Bool))) else (some (false : Bool))
theorem law10_samePlan_ok (v1 : Bool) (v2 : List Int) (v3 : Int) (v4 : List Node) (v5 : Bool) (v6 : List Int) (v7 : Int) (v8 : List Node) (r : Bool) (hx : law10_samePlan v1 v2 v3 v4 v5 v6 v7 v8 = some r) :
    ACalls Try.prog 19 [.agg [.d (.bool v1), .d (.sl (List.map iD v2)), .d (.int .i64 v3), .d (.sl (List.map Node.D v4))], .agg [.d (.bool v5), .d (.sl (List.map iD v6)), .d (.int .i64 v7), .d (.sl (List.map Node.D v8))]] [] (.d (.bool r)) [] := by
  refine ACalls.of_sem (n := 24) 0 [4] (fn := Try.f19) Try.func19 rfl rfl (.one rfl) rfl (by simp) (by intro i; simp only [hget]; (repeat' split) <;> simp <;> omega) ?_
  unfold law10_samePlan at hx
  refine Walk.seq (Walk.region' rfl fun K hK => ?_)
  simp only [go_sem, seval]
  refine hK _ ?_
  clear hK K
  refine Walk.seq (Walk.region' rfl fun K hK => ?_)
  simp only [go_sem, seval]
  refine VGdO hx (fun g4 hx => ?_) (fun g4 hx => ?_)
  · simp only [go_sem, seval, g4]
    refine VGdO hx (fun g5 hx => ?_) (fun g5 hx => ?_)
    · obtain ⟨v11, h6, hx⟩ := bind_elim hx
      simp only [go_sem, seval, g4, g5]
      refine VCl.pure rfl (by simp only [go_sem, seval, g4, g5]; try simp) (ref06_Ints_ok v2 v6 _ h6) (by simp only [go_sem, seval, g4, g5]; try simp) (by simp only [go_sem, seval, g4, g5]; try simp) (by simp only [go_sem, seval, g4, g5]; try simp) (by simp only [go_sem, seval, g4, g5]; try simp) (by simp only [go_sem, seval, g4, g5]; try simp) (by simp only [go_sem, seval, g4, g5]; try simp) ?_
      simp only [go_sem, seval, g4, g5]
      refine hK _ ?_
      clear hK K
      obtain rfl := Option.some.inj hx
      exact Walk.ret ⟨by simp [g4, g5], by simp [g4, g5]⟩
    simp only [go_sem, seval, g4, g5]
    refine hK _ ?_
    clear hK K
    obtain rfl := Option.some.inj hx
    exact Walk.ret ⟨by simp [g4, g5], by simp [g4, g5]⟩
  simp only [go_sem, seval, g4]
  refine hK _ ?_
  clear hK K
  obtain rfl := Option.some.inj hx
  exact Walk.ret ⟨by simp [g4], by simp [g4]⟩
noncomputable def ref08_Cost (v1 : List Int) (v2 : List Row) (v3 : List Int) : Option (Int × Bool) :=
  (ref08_Valid v1 v2).bind fun v13 => bif !v13 then (some ((0, false) : Int × Bool)) else ((ref08_Choice (v1.length : Int) v3).bind fun v14 => bif !v14 then (some ((0, false) : Int × Bool)) else ((ref08_Sum v1 v3).bind fun v15 => some ((v15, true) : Int × Bool)))
theorem ref08_Cost_ok (v1 : List Int) (v2 : List Row) (v3 : List Int) (r : Int × Bool) (hx : ref08_Cost v1 v2 v3 = some r) :
    ACalls Try.prog 67 [.agg [.d (.sl (List.map iD v1)), .d (.sl (List.map Row.D v2))], .d (.sl (List.map iD v3))] [] (.tup [.d (.int .i64 r.1), .d (.bool r.2)]) [] := by
  refine ACalls.of_sem (n := 21) 0 [4, 5] (fn := Try.f67) Try.func67 rfl rfl (.two rfl) rfl (by simp) (by intro i; simp only [hget]; (repeat' split) <;> simp <;> omega) ?_
  unfold ref08_Cost at hx
  refine Walk.seq (Walk.region' rfl fun K hK => ?_)
  simp only [go_sem, seval]
  refine hK _ ?_
  clear hK K
  refine Walk.seq (Walk.seq (Walk.region' rfl fun K hK => ?_))
  obtain ⟨v13, h15, hx⟩ := bind_elim hx
  simp only [go_sem, seval]
  refine VCl.pure rfl (by simp only [go_sem, seval]; try simp) (ref08_Valid_ok v1 v2 _ h15) (by simp only [go_sem, seval]; try simp) (by simp only [go_sem, seval]; try simp) (by simp only [go_sem, seval]; try simp) (by simp only [go_sem, seval]; try simp) (by simp only [go_sem, seval]; try simp) (by simp only [go_sem, seval]; try simp) ?_
  simp only [go_sem, seval]
  refine VGdO hx (fun g16 hx => ?_) (fun g16 hx => ?_)
  · simp only [go_sem, seval, g16]
    refine hK _ ?_
    clear hK K
    refine Walk.condT rfl (Walk.seq (Walk.region' rfl fun K hK => ?_))
    simp only [go_sem, seval, g16]
    refine hK _ ?_
    clear hK K
    obtain rfl := Option.some.inj hx
    exact Walk.ret ⟨by simp [g16], by simp [g16]⟩
  obtain ⟨v14, h17, hx⟩ := bind_elim hx
  simp only [go_sem, seval, g16]
  refine VCl.pure rfl (by simp only [go_sem, seval, g16]; try simp) (ref08_Choice_ok (v1.length : Int) v3 _ h17) (by simp only [go_sem, seval, g16]; try simp) (by simp only [go_sem, seval, g16]; try simp) (by simp only [go_sem, seval, g16]; try simp) (by simp only [go_sem, seval, g16]; try simp) (by simp only [go_sem, seval, g16]; try simp) (by simp only [go_sem, seval, g16]; try simp) ?_
  simp only [go_sem, seval, g16]
  refine hK _ ?_
  clear hK K
  refine Walk.condO rfl hx (fun c19 hx => ?_) (fun c19 hx => ?_)
  · refine Walk.seq (Walk.region' rfl fun K hK => ?_)
    simp only [go_sem, seval, g16, c19]
    refine hK _ ?_
    clear hK K
    obtain rfl := Option.some.inj hx
    exact Walk.ret ⟨by simp [g16, c19], by simp [g16, c19]⟩
  refine Walk.skip (Walk.seq (Walk.region' rfl fun K hK => ?_))
  obtain ⟨v15, h20, hx⟩ := bind_elim hx
  simp only [go_sem, seval, g16, c19]
  refine VCl.pure rfl (by simp only [go_sem, seval, g16, c19]; try simp) (ref08_Sum_ok v1 v3 _ h20) (by simp only [go_sem, seval, g16, c19]; try simp) (by simp only [go_sem, seval, g16, c19]; try simp) (by simp only [go_sem, seval, g16, c19]; try simp) (by simp only [go_sem, seval, g16, c19]; try simp) (by simp only [go_sem, seval, g16, c19]; try simp) (by simp only [go_sem, seval, g16, c19]; try simp) ?_
  simp only [go_sem, seval, g16, c19]
  refine hK _ ?_
  clear hK K
  obtain rfl := Option.some.inj hx
  exact Walk.ret ⟨by simp [g16, c19], by simp [g16, c19]⟩
noncomputable def ref10_Best_l0 (v17 : List (List Int) × Int) (v1 : List Int) (v2 : List Row) (v20 : List Int) (v21 : Int) (v22 : Bool) (v23 : Int) : Option ((List Int × Int × Bool × Int) ⊕ (List Int × Int × Bool)) :=
  bif decide (v23 < (v17.1.length : Int)) then ((rd v17.1 v23).bind fun v26 => (ref08_Cost v1 v2 v26).bind fun v27 => bif !v22 then (contO ((v26, v27.1, true, IntKind.i64.wrap (v23 + 1)) : List Int × Int × Bool × Int)) else (bif decide (v27.1 < v21) then (contO ((v26, v27.1, true, IntKind.i64.wrap (v23 + 1)) : List Int × Int × Bool × Int)) else (contO ((v20, v21, v22, IntKind.i64.wrap (v23 + 1)) : List Int × Int × Bool × Int)))) else (exitO (some ((v20, v21, v22) : List Int × Int × Bool)))
noncomputable def ref10_Best (v1 : List Int) (v2 : List Row) : Option (List Int × Int × Bool) :=
  (ref10_All v1 v2).bind fun v17 => iter (fun g : List Int × Int × Bool × Int => ref10_Best_l0 v17 v1 v2 g.1 g.2.1 g.2.2.1 g.2.2.2) ([], 0, false, 0)
theorem ref10_Best_ok (v1 : List Int) (v2 : List Row) (r : List Int × Int × Bool) (hx : ref10_Best v1 v2 = some r) :
    ACalls Try.prog 50 [.agg [.d (.sl (List.map iD v1)), .d (.sl (List.map Row.D v2))]] [] (.tup [.d (.sl (List.map iD r.1)), .d (.int .i64 r.2.1), .d (.bool r.2.2)]) [] := by
  refine ACalls.of_sem (n := 48) 0 [2, 3, 4] (fn := Try.f50) Try.func50 rfl rfl (.three rfl) rfl (by simp) (by intro i; simp only [hget]; (repeat' split) <;> simp <;> omega) ?_
  unfold ref10_Best at hx
  refine Walk.seq (Walk.region' rfl fun K hK => ?_)
  simp only [go_sem, seval]
  refine hK _ ?_
  clear hK K
  refine Walk.seq (Walk.region' rfl fun K hK => ?_)
  obtain ⟨v17, h35, hx⟩ := bind_elim hx
  have w36 := ((ref10_All_ok v1 v2 _ h35).swap 2000 1002)
  simp only [renE, renL, AV.ren, AV.rens, AObj.ren, swp, Option.map_some, reduceIte, Nat.reduceEqDiff] at w36
  simp only [go_sem, seval]
  refine VCl.pure rfl (by simp only [go_sem, seval]; try simp) (w36) (by simp only [go_sem, seval]; try simp) (by simp only [go_sem, seval]; try simp) (by simp only [go_sem, seval]; try simp) (by simp only [go_sem, seval]; try simp) (by simp only [go_sem, seval]; try simp) (by simp only [go_sem, seval]; try simp) ?_
  simp only [go_sem, seval]
  refine hK _ ?_
  clear hK K
  refine Walk.weaken ⟨[(1, .box 1 0), (5, .arr 1002 0 v17.1.length)], [(1, some (.box [.d (.sl (List.map iD v1)), .d (.sl (List.map Row.D v2))])), (1002, some (.arr 22 1 (List.map (lD iD) v17.1)))]⟩ (by simp <;> omega) (by simp <;> omega) ?_
  refine Walk.seq (Walk.region' rfl fun K hK => ?_)
  simp only [go_sem, seval]
  refine hK _ ?_
  clear hK K
  refine Walk.seq (Walk.region' rfl fun K hK => ?_)
  simp only [go_sem, seval]
  refine hK _ ?_
  clear hK K
  refine Walk.seq (Walk.seq (Walk.region' rfl fun K hK => ?_))
  simp only [go_sem, seval]
  refine hK _ ?_
  clear hK K
  refine Walk.block (Walk.loop ?_)
  refine Walk.weaken ⟨[(1, .box 1 0), (5, .arr 1002 0 v17.1.length), (7, .nils), (8, .d (.int .i64 0)), (9, .d (.bool false)), (10, .d (.int .i64 0))], [(1, some (.box [.d (.sl (List.map iD v1)), .d (.sl (List.map Row.D v2))])), (1002, some (.arr 22 1 (List.map (lD iD) v17.1)))]⟩ (by simp <;> omega) (by simp <;> omega) ?_
  refine Walk.nil2d [(1, .box 1 0), (5, .arr 1002 0 v17.1.length), (7, .d (.sl (List.map iD []))), (8, .d (.int .i64 0)), (9, .d (.bool false)), (10, .d (.int .i64 0))] [(1, some (.box [.d (.sl (List.map iD v1)), .d (.sl (List.map Row.D v2))])), (1002, some (.arr 22 1 (List.map (lD iD) v17.1)))] (by simp) (by simp) ?_
  refine Walk.weaken ⟨[(1, .box 1 0), (5, .arr 1002 0 v17.1.length), (7, .d (.sl (List.map iD []))), (8, .d (.int .i64 0)), (9, .d (.bool false)), (10, .d (.int .i64 0))], [(1, some (.box [.d (.sl (List.map iD v1)), .d (.sl (List.map Row.D v2))])), (1002, some (.arr 22 1 (List.map (lD iD) v17.1)))]⟩ (by simp <;> omega) (by simp <;> omega) ?_
  refine Walk.iter (σ := List Int × Int × Bool × Int) (fun g => ⟨[(1, .box 1 0), (5, .arr 1002 0 v17.1.length), (7, .d (.sl (List.map iD g.1))), (8, .d (.int .i64 g.2.1)), (9, .d (.bool g.2.2.1)), (10, .d (.int .i64 g.2.2.2))], [(1, some (.box [.d (.sl (List.map iD v1)), .d (.sl (List.map Row.D v2))])), (1002, some (.arr 22 1 (List.map (lD iD) v17.1)))]⟩) (fun g : List Int × Int × Bool × Int => ref10_Best_l0 v17 v1 v2 g.1 g.2.1 g.2.2.1 g.2.2.2) _ (fun g y69 hx ih55 hr56 => ?_) ([], 0, false, 0) hx
  obtain ⟨v20, v21, v22, v23⟩ := g
  unfold ref10_Best_l0 at hx
  try dsimp only at hx ⊢
  refine Walk.seq (Walk.seq (Walk.region' rfl fun K hK => ?_))
  simp only [go_sem, seval]
  refine hK _ ?_
  clear hK K
  refine Walk.condO rfl hx (fun c59 hx => ?_) (fun c59 hx => ?_)
  · refine Walk.skip (Walk.seq (Walk.block (Walk.seq (Walk.drawn' rfl mixed fun K hK => ?_))))
    obtain ⟨v26, r60, a61, b62, c63, hx⟩ := rd_elim hx
    obtain ⟨v27, h64, hx⟩ := bind_elim hx
    simp only [go_sem, seval, c59, a61, b62, c63]
    repeat refine And.intro (by first | omega | (simp; done) | (simp; omega)) ?_
    refine VCl.pure rfl (by simp only [go_sem, seval, c59, a61, b62, c63]; try simp) (ref08_Cost_ok v1 v2 v26 _ h64) (by simp only [go_sem, seval, c59, a61, b62, c63]; try simp) (by simp only [go_sem, seval, c59, a61, b62, c63]; try simp) (by simp only [go_sem, seval, c59, a61, b62, c63]; try simp) (by simp only [go_sem, seval, c59, a61, b62, c63]; try simp) (by simp only [go_sem, seval, c59, a61, b62, c63]; try simp) (by simp only [go_sem, seval, c59, a61, b62, c63]; try simp) ?_
    simp only [go_sem, seval, c59, a61, b62, c63]
    refine hK _ _ (by kernel_rfl) (by simp [c59, a61, b62, c63]) ?_
    clear hK K
    refine Walk.seq (Walk.region' rfl fun K hK => ?_)
    simp only [go_sem, seval, c59, a61, b62, c63]
    refine VGdO hx (fun g65 hx => ?_) (fun g65 hx => ?_)
    · simp only [go_sem, seval, c59, a61, b62, c63, g65]
      refine hK _ ?_
      clear hK K
      refine Walk.condT rfl (Walk.region' rfl fun K hK => ?_)
      simp only [go_sem, seval, c59, a61, b62, c63, g65]
      repeat refine And.intro (by first | omega | (simp; done) | (simp; omega)) ?_
      refine hK _ ?_
      clear hK K
      refine Walk.inBlock (Walk.region' rfl fun K hK => ?_)
      simp only [go_sem, seval, c59, a61, b62, c63, g65]
      refine hK _ ?_
      clear hK K
      exact Walk.weaken _ (by simp [c59, a61, b62, c63, g65] <;> omega) (by simp [c59, a61, b62, c63, g65] <;> omega) (ih55 _ (cont_elim hx))
    simp only [go_sem, seval, c59, a61, b62, c63, g65]
    refine hK _ ?_
    clear hK K
    refine Walk.condO rfl hx (fun c66 hx => ?_) (fun c66 hx => ?_)
    · refine Walk.region' rfl fun K hK => ?_
      simp only [go_sem, seval, c59, a61, b62, c63, g65, c66]
      repeat refine And.intro (by first | omega | (simp; done) | (simp; omega)) ?_
      refine hK _ ?_
      clear hK K
      refine Walk.inBlock (Walk.region' rfl fun K hK => ?_)
      simp only [go_sem, seval, c59, a61, b62, c63, g65, c66]
      refine hK _ ?_
      clear hK K
      exact Walk.weaken _ (by simp [c59, a61, b62, c63, g65, c66] <;> omega) (by simp [c59, a61, b62, c63, g65, c66] <;> omega) (ih55 _ (cont_elim hx))
    refine Walk.skip (Walk.inBlock (Walk.region' rfl fun K hK => ?_))
    simp only [go_sem, seval, c59, a61, b62, c63, g65, c66]
    refine hK _ ?_
    clear hK K
    exact Walk.weaken _ (by simp [c59, a61, b62, c63, g65, c66] <;> omega) (by simp [c59, a61, b62, c63, g65, c66] <;> omega) (ih55 _ (cont_elim hx))
  refine Walk.exit rfl ?_
  obtain ⟨z67, e68, hx⟩ := exit_elim hx
  rw [hr56 z67 e68] at hx
  refine Walk.seq (Walk.region' rfl fun K hK => ?_)
  simp only [go_sem, seval, c59]
  refine hK _ ?_
  clear hK K
  obtain rfl := Option.some.inj hx
  exact Walk.ret ⟨by simp [c59], by simp [c59]⟩
noncomputable def ref10_Plan (v1 : List Int) (v2 : List Row) : Option (Bool × List Int × Int) :=
  (ref10_Best v1 v2).bind fun v7 => some ((v7.2.2, v7.1, v7.2.1) : Bool × List Int × Int)
theorem ref10_Plan_ok (v1 : List Int) (v2 : List Row) (r : Bool × List Int × Int) (hx : ref10_Plan v1 v2 = some r) :
    ACalls Try.prog 20 [.agg [.d (.sl (List.map iD v1)), .d (.sl (List.map Row.D v2))]] [] (.agg [.d (.bool r.1), .d (.sl (List.map iD r.2.1)), .d (.int .i64 r.2.2), .nils]) [] := by
  refine ACalls.of_cellS (n := 16) 0 2 38 (fn := Try.f20) Try.func20 rfl rfl rfl rfl (by simp) (by intro i; simp only [hget]; (repeat' split) <;> simp <;> omega) ?_
  unfold ref10_Plan at hx
  refine Walk.seq (Walk.region' rfl fun K hK => ?_)
  simp only [go_sem, seval]
  refine hK _ ?_
  clear hK K
  refine Walk.seq (Walk.region' rfl fun K hK => ?_)
  obtain ⟨v7, h2, hx⟩ := bind_elim hx
  simp only [go_sem, seval]
  refine VCl.pure rfl (by simp only [go_sem, seval]; try simp) (ref10_Best_ok v1 v2 _ h2) (by simp only [go_sem, seval]; try simp) (by simp only [go_sem, seval]; try simp) (by simp only [go_sem, seval]; try simp) (by simp only [go_sem, seval]; try simp) (by simp only [go_sem, seval]; try simp) (by simp only [go_sem, seval]; try simp) ?_
  simp only [go_sem, seval]
  refine hK _ ?_
  clear hK K
  refine Walk.seq (Walk.region' rfl fun K hK => ?_)
  simp only [go_sem, seval]
  refine hK _ ?_
  clear hK K
  refine Walk.weaken ⟨[(2, .box 2 0)], [(2, some (.box [.d (.bool v7.2.2), .d (.sl (List.map iD v7.1)), .d (.int .i64 v7.2.1), .nils]))]⟩ (by simp <;> omega) (by simp <;> omega) ?_
  refine Walk.rename 2 2000 (by omega) (by omega) (by simp) (by simp) ?_
  simp only [renE, renL, AV.ren, AV.rens, AObj.ren, swp, Option.map_some, reduceIte, Nat.reduceEqDiff]
  obtain rfl := Option.some.inj hx
  exact Walk.ret ⟨2000, 0, by simp, by simp, by simp, by simp⟩
noncomputable def law10_AssemblySolves (v1 : List Int) : Option (Bool) :=
  (mk_New v1).bind fun v18 => (mk_Tape_Program v18 0 7 8).bind fun v19 => (assembly_Solve v19.2.2 v19.2.1).bind fun v20 => (ref08_Valid v19.2.2 v19.2.1).bind fun v24 => bif !v24 then (bif decide (v20.1 = 1) then ((law10_samePlan v20.2.1 v20.2.2.1 v20.2.2.2.1 v20.2.2.2.2 false [] 0 []).bind fun v27 => bif v27 then (bif decide ((v20.2.2.2.2.length : Int) = 0) then ((law10_awake).bind fun v28 => some (v28 : Bool)) else (some (false : Bool))) else (some (false : Bool))) else (some (false : Bool))) else (bif decide (v20.1 = 0) then ((ref10_Plan v19.2.2 v19.2.1).bind fun v29 => (law10_samePlan v20.2.1 v20.2.2.1 v20.2.2.2.1 v20.2.2.2.2 v29.1 v29.2.1 v29.2.2 []).bind fun v30 => bif v30 then ((optimality_Check v19.2.2 v19.2.1 v20.2.1 v20.2.2.1 v20.2.2.2.1 v20.2.2.2.2).bind fun v31 => bif decide (v31 = 0) then (bif decide ((v20.2.2.2.2.length : Int) ≤ 8191) then ((law10_awake).bind fun v32 => some (v32 : Bool)) else (some (false : Bool))) else (some (false : Bool))) else (some (false : Bool))) else (some (false : Bool)))
theorem law10_AssemblySolves_ok (v1 : List Int) (r : Bool) (hx : law10_AssemblySolves v1 = some r) :
    ACalls Try.prog 4 [.d (.sl (List.map iD v1))] [] (.d (.bool r)) [] := by
  refine ACalls.of_sem (n := 56) 0 [2] (fn := Try.f4) Try.func4 rfl rfl (.one rfl) rfl (by simp) (by intro i; simp only [hget]; (repeat' split) <;> simp <;> omega) ?_
  unfold law10_AssemblySolves at hx
  refine Walk.seq (Walk.region' rfl fun K hK => ?_)
  simp only [go_sem, seval]
  refine hK _ ?_
  clear hK K
  refine Walk.seq (Walk.region' rfl fun K hK => ?_)
  obtain ⟨v18, h35, hx⟩ := bind_elim hx
  have w36 := ((mk_New_ok v1 _ h35).swap 2000 1005)
  simp only [renE, renL, AV.ren, AV.rens, AObj.ren, swp, Option.map_some, reduceIte, Nat.reduceEqDiff] at w36
  simp only [go_sem, seval]
  refine VCl.sub [] [] rfl (by simp only [go_sem, seval, AV.viewXs, AV.viewX, avD]; try simp) (w36) (by simp) (by simp) (by simp) (by simp) (by simp) (by simp) (by simp) (by simp) (by simp) (by simp) ?_
  obtain ⟨v19, h37, hx⟩ := bind_elim hx
  have w38 := ((((mk_Tape_Program_ok v18 0 7 8 _ h37).swap 0 1005).swap 2001 1006).swap 2002 1007)
  simp only [renE, renL, AV.ren, AV.rens, AObj.ren, swp, Option.map_some, reduceIte, Nat.reduceEqDiff] at w38
  simp only [go_sem, seval]
  refine VCl.sub [(1005, some (.box [.d (.sl (List.map iD v18)), .d (.int .i64 0)]))] [] rfl (by simp only [go_sem, seval, AV.viewXs, AV.viewX, avD]; try simp) (w38) (by simp) (by simp) (by simp) (by simp) (by simp) (by simp) (by simp) (by simp) (by simp) (by simp) ?_
  simp only [go_sem, seval]
  refine hK _ ?_
  clear hK K
  refine Walk.weaken ⟨[(3, .box 3 0)], [(3, some (.box [.arr 1006 0 v19.2.2.length, .arr 1007 0 v19.2.1.length])), (1006, some (.arr 3 1 (List.map iD v19.2.2))), (1007, some (.arr 47 3 (List.map Row.D v19.2.1)))]⟩ (by simp <;> omega) (by simp <;> omega) ?_
  refine Walk.seq ?_
  refine Walk.weaken ⟨[(3, .box 3 0)], [(3, some (.box [.arr 1006 0 v19.2.2.length, .arr 1007 0 v19.2.1.length])), (1006, some (.arr 3 1 (List.map iD v19.2.2))), (1007, some (.arr 47 3 (List.map Row.D v19.2.1)))]⟩ (by simp <;> omega) (by simp <;> omega) ?_
  refine Walk.freeze 1006 3 1 (List.map iD v19.2.2) [(3, .box 3 0)] [(3, some (.box [.d (.sl (List.map iD v19.2.2)), .arr 1007 0 v19.2.1.length])), (1007, some (.arr 47 3 (List.map Row.D v19.2.1)))] (by simp) (by simp) (by simp) ?_
  refine Walk.weaken ⟨[(3, .box 3 0)], [(3, some (.box [.d (.sl (List.map iD v19.2.2)), .arr 1007 0 v19.2.1.length])), (1007, some (.arr 47 3 (List.map Row.D v19.2.1)))]⟩ (by simp <;> omega) (by simp <;> omega) ?_
  refine Walk.freeze 1007 47 3 (List.map Row.D v19.2.1) [(3, .box 3 0)] [(3, some (.box [.d (.sl (List.map iD v19.2.2)), .d (.sl (List.map Row.D v19.2.1))]))] (by simp) (by simp) (by simp) ?_
  refine Walk.region' rfl fun K hK => ?_
  obtain ⟨v20, h39, hx⟩ := bind_elim hx
  have w40 := ((assembly_Solve_ok v19.2.2 v19.2.1 _ h39).swap 2001 1008)
  simp only [renE, renL, AV.ren, AV.rens, AObj.ren, swp, Option.map_some, reduceIte, Nat.reduceEqDiff] at w40
  simp only [go_sem, seval]
  refine VCl.pure rfl (by simp only [go_sem, seval]; try simp) (w40) (by simp only [go_sem, seval]; try simp) (by simp only [go_sem, seval]; try simp) (by simp only [go_sem, seval]; try simp) (by simp only [go_sem, seval]; try simp) (by simp only [go_sem, seval]; try simp) (by simp only [go_sem, seval]; try simp) ?_
  simp only [go_sem, seval]
  refine hK _ ?_
  clear hK K
  refine Walk.weaken ⟨[(3, .box 3 0), (4, .box 4 0), (5, .d (.int .i64 v20.1))], [(3, some (.box [.d (.sl (List.map iD v19.2.2)), .d (.sl (List.map Row.D v19.2.1))])), (4, some (.box [.d (.bool v20.2.1), .d (.sl (List.map iD v20.2.2.1)), .d (.int .i64 v20.2.2.2.1), .arr 1008 0 v20.2.2.2.2.length])), (1008, some (.arr 86 7 (List.map Node.D v20.2.2.2.2)))]⟩ (by simp <;> omega) (by simp <;> omega) ?_
  refine Walk.seq (Walk.seq (Walk.region' rfl fun K hK => ?_))
  obtain ⟨v24, h48, hx⟩ := bind_elim hx
  simp only [go_sem, seval]
  refine VCl.pure rfl (by simp only [go_sem, seval]; try simp) (ref08_Valid_ok v19.2.2 v19.2.1 _ h48) (by simp only [go_sem, seval]; try simp) (by simp only [go_sem, seval]; try simp) (by simp only [go_sem, seval]; try simp) (by simp only [go_sem, seval]; try simp) (by simp only [go_sem, seval]; try simp) (by simp only [go_sem, seval]; try simp) ?_
  simp only [go_sem, seval]
  refine hK _ ?_
  clear hK K
  refine Walk.condO rfl hx (fun c55 hx => ?_) (fun c55 hx => ?_)
  · refine Walk.seq (Walk.region' rfl fun K hK => ?_)
    simp only [go_sem, seval, c55]
    refine VGdO hx (fun g56 hx => ?_) (fun g56 hx => ?_)
    · obtain ⟨v27, h57, hx⟩ := bind_elim hx
      simp only [go_sem, seval, c55, g56]
      refine VCl.lent rfl (by simp only [go_sem, seval, c55, g56]; try simp) (law10_samePlan_ok v20.2.1 v20.2.2.1 v20.2.2.2.1 v20.2.2.2.2 false [] 0 [] _ h57) (by simp [c55, g56]) (by simp [c55, g56]) (by simp [c55, g56]) (by simp [c55, g56]) (by simp [c55, g56]) (by simp [c55, g56]) (by simp [c55, g56]) ?_
      simp only [go_sem, seval, c55, g56]
      refine VGdO hx (fun g58 hx => ?_) (fun g58 hx => ?_)
      · simp only [go_sem, seval, c55, g56, g58]
        refine VGdO hx (fun g59 hx => ?_) (fun g59 hx => ?_)
        · obtain ⟨v28, h60, hx⟩ := bind_elim hx
          simp only [go_sem, seval, c55, g56, g58, g59]
          refine VCl.pure rfl (by simp only [go_sem, seval, c55, g56, g58, g59]; try simp) (law10_awake_ok _ h60) (by simp only [go_sem, seval, c55, g56, g58, g59]; try simp) (by simp only [go_sem, seval, c55, g56, g58, g59]; try simp) (by simp only [go_sem, seval, c55, g56, g58, g59]; try simp) (by simp only [go_sem, seval, c55, g56, g58, g59]; try simp) (by simp only [go_sem, seval, c55, g56, g58, g59]; try simp) (by simp only [go_sem, seval, c55, g56, g58, g59]; try simp) ?_
          simp only [go_sem, seval, c55, g56, g58, g59]
          refine hK _ ?_
          clear hK K
          obtain rfl := Option.some.inj hx
          exact Walk.ret ⟨by simp [c55, g56, g58, g59], by simp [c55, g56, g58, g59]⟩
        simp only [go_sem, seval, c55, g56, g58, g59]
        refine hK _ ?_
        clear hK K
        obtain rfl := Option.some.inj hx
        exact Walk.ret ⟨by simp [c55, g56, g58, g59], by simp [c55, g56, g58, g59]⟩
      simp only [go_sem, seval, c55, g56, g58]
      refine hK _ ?_
      clear hK K
      obtain rfl := Option.some.inj hx
      exact Walk.ret ⟨by simp [c55, g56, g58], by simp [c55, g56, g58]⟩
    simp only [go_sem, seval, c55, g56]
    refine hK _ ?_
    clear hK K
    obtain rfl := Option.some.inj hx
    exact Walk.ret ⟨by simp [c55, g56], by simp [c55, g56]⟩
  refine Walk.skip (Walk.seq (Walk.drawn' rfl mixed fun K hK => ?_))
  simp only [go_sem, seval, c55]
  refine VGdO hx (fun g61 hx => ?_) (fun g61 hx => ?_)
  · obtain ⟨v29, h62, hx⟩ := bind_elim hx
    simp only [go_sem, seval, c55, g61]
    refine VCl.pure rfl (by simp only [go_sem, seval, c55, g61]; try simp) (ref10_Plan_ok v19.2.2 v19.2.1 _ h62) (by simp only [go_sem, seval, c55, g61]; try simp) (by simp only [go_sem, seval, c55, g61]; try simp) (by simp only [go_sem, seval, c55, g61]; try simp) (by simp only [go_sem, seval, c55, g61]; try simp) (by simp only [go_sem, seval, c55, g61]; try simp) (by simp only [go_sem, seval, c55, g61]; try simp) ?_
    obtain ⟨v30, h63, hx⟩ := bind_elim hx
    simp only [go_sem, seval, c55, g61]
    refine VCl.lent rfl (by simp only [go_sem, seval, c55, g61]; try simp) (law10_samePlan_ok v20.2.1 v20.2.2.1 v20.2.2.2.1 v20.2.2.2.2 v29.1 v29.2.1 v29.2.2 [] _ h63) (by simp [c55, g61]) (by simp [c55, g61]) (by simp [c55, g61]) (by simp [c55, g61]) (by simp [c55, g61]) (by simp [c55, g61]) (by simp [c55, g61]) ?_
    simp only [go_sem, seval, c55, g61]
    refine VGdO hx (fun g64 hx => ?_) (fun g64 hx => ?_)
    · obtain ⟨v31, h65, hx⟩ := bind_elim hx
      simp only [go_sem, seval, c55, g61, g64]
      refine VCl.lent rfl (by simp only [go_sem, seval, c55, g61, g64]; try simp) (optimality_Check_ok v19.2.2 v19.2.1 v20.2.1 v20.2.2.1 v20.2.2.2.1 v20.2.2.2.2 _ h65) (by simp [c55, g61, g64]) (by simp [c55, g61, g64]) (by simp [c55, g61, g64]) (by simp [c55, g61, g64]) (by simp [c55, g61, g64]) (by simp [c55, g61, g64]) (by simp [c55, g61, g64]) ?_
      simp only [go_sem, seval, c55, g61, g64]
      refine VGdO hx (fun g66 hx => ?_) (fun g66 hx => ?_)
      · simp only [go_sem, seval, c55, g61, g64, g66]
        refine VGdO hx (fun g67 hx => ?_) (fun g67 hx => ?_)
        · obtain ⟨v32, h68, hx⟩ := bind_elim hx
          simp only [go_sem, seval, c55, g61, g64, g66, g67]
          refine VCl.pure rfl (by simp only [go_sem, seval, c55, g61, g64, g66, g67]; try simp) (law10_awake_ok _ h68) (by simp only [go_sem, seval, c55, g61, g64, g66, g67]; try simp) (by simp only [go_sem, seval, c55, g61, g64, g66, g67]; try simp) (by simp only [go_sem, seval, c55, g61, g64, g66, g67]; try simp) (by simp only [go_sem, seval, c55, g61, g64, g66, g67]; try simp) (by simp only [go_sem, seval, c55, g61, g64, g66, g67]; try simp) (by simp only [go_sem, seval, c55, g61, g64, g66, g67]; try simp) ?_
          simp only [go_sem, seval, c55, g61, g64, g66, g67]
          refine hK _ _ (by kernel_rfl) (by simp [c55, g61, g64, g66, g67]) ?_
          clear hK K
          obtain rfl := Option.some.inj hx
          exact Walk.ret ⟨by simp [c55, g61, g64, g66, g67], by simp [c55, g61, g64, g66, g67]⟩
        simp only [go_sem, seval, c55, g61, g64, g66, g67]
        refine hK _ _ (by kernel_rfl) (by simp [c55, g61, g64, g66, g67]) ?_
        clear hK K
        obtain rfl := Option.some.inj hx
        exact Walk.ret ⟨by simp [c55, g61, g64, g66, g67], by simp [c55, g61, g64, g66, g67]⟩
      simp only [go_sem, seval, c55, g61, g64, g66]
      refine hK _ _ (by kernel_rfl) (by simp [c55, g61, g64, g66]) ?_
      clear hK K
      obtain rfl := Option.some.inj hx
      exact Walk.ret ⟨by simp [c55, g61, g64, g66], by simp [c55, g61, g64, g66]⟩
    simp only [go_sem, seval, c55, g61, g64]
    refine hK _ _ (by kernel_rfl) (by simp [c55, g61, g64]) ?_
    clear hK K
    obtain rfl := Option.some.inj hx
    exact Walk.ret ⟨by simp [c55, g61, g64], by simp [c55, g61, g64]⟩
  simp only [go_sem, seval, c55, g61]
  refine hK _ _ (by kernel_rfl) (by simp [c55, g61]) ?_
  clear hK K
  obtain rfl := Option.some.inj hx
  exact Walk.ret ⟨by simp [c55, g61], by simp [c55, g61]⟩
noncomputable def mk_Tape_Sorted_l0 (v3 : Int) (v1 : List Int) (v13 : List Int) (v14 : Int) (v15 : Int) : Option ((List Int × Int × Int) ⊕ (Int × List Int)) :=
  bif decide (v14 < v3) then ((mk_Tape_Next v1 v15 2).bind fun v17 => bif decide (v17.1 = 1) then (chk ((v13.length + 1) * 8 ≤ 140737488355328) (contO (((v13 ++ [v14]), IntKind.i64.wrap (v14 + 1), v17.2) : List Int × Int × Int))) else (contO ((v13, IntKind.i64.wrap (v14 + 1), v17.2) : List Int × Int × Int))) else (exitO (some ((v15, v13) : Int × List Int)))
noncomputable def mk_Tape_Sorted (v1 : List Int) (v2 : Int) (v3 : Int) : Option (Int × List Int) :=
  iter (fun g : List Int × Int × Int => mk_Tape_Sorted_l0 v3 v1 g.1 g.2.1 g.2.2) ([], 0, v2)
theorem mk_Tape_Sorted_ok (v1 : List Int) (v2 : Int) (v3 : Int) (r : Int × List Int) (hx : mk_Tape_Sorted v1 v2 v3 = some r) :
    ACalls Try.prog 23 [.box 0 0, .d (.int .i64 v3)] [(0, some (.box [.d (.sl (List.map iD v1)), .d (.int .i64 v2)]))] (.arr 2000 0 r.2.length) [(0, some (.box [.d (.sl (List.map iD v1)), .d (.int .i64 r.1)])), (2000, some (.arr 3 1 (List.map iD r.2)))] := by
  refine ACalls.of_sem (n := 20) 1 [4] (fn := Try.f23) Try.func23 rfl rfl (.one rfl) rfl (by simp) (by intro i; simp only [hget]; (repeat' split) <;> simp <;> omega) ?_
  unfold mk_Tape_Sorted at hx
  refine Walk.seq (Walk.region' rfl fun K hK => ?_)
  simp only [go_sem, seval]
  refine hK _ ?_
  clear hK K
  refine Walk.seq (Walk.region' rfl fun K hK => ?_)
  simp only [go_sem, seval]
  refine hK _ ?_
  clear hK K
  refine Walk.seq (Walk.seq (Walk.region' rfl fun K hK => ?_))
  simp only [go_sem, seval]
  refine hK _ ?_
  clear hK K
  refine Walk.block (Walk.loop ?_)
  refine Walk.weaken ⟨[(0, .box 0 0), (1, .d (.int .i64 v3)), (5, .nils), (6, .d (.int .i64 0))], [(0, some (.box [.d (.sl (List.map iD v1)), .d (.int .i64 v2)]))]⟩ (by simp <;> omega) (by simp <;> omega) ?_
  refine Walk.up 1002 3 1 [(0, .box 0 0), (1, .d (.int .i64 v3)), (5, .arr 1002 0 0), (6, .d (.int .i64 0))] [(0, some (.box [.d (.sl (List.map iD v1)), .d (.int .i64 v2)]))] (by simp) (by simp) (by omega) (by simp) (by simp) (by simp) ?_
  refine Walk.weaken ⟨[(0, .box 0 0), (1, .d (.int .i64 v3)), (5, .arr 1002 0 0), (6, .d (.int .i64 0))], [(0, some (.box [.d (.sl (List.map iD v1)), .d (.int .i64 v2)])), (1002, some (.arr 3 1 (List.map iD [])))]⟩ (by simp <;> omega) (by simp <;> omega) ?_
  refine Walk.iter (σ := List Int × Int × Int) (fun g => ⟨[(0, .box 0 0), (1, .d (.int .i64 v3)), (5, .arr 1002 0 g.1.length), (6, .d (.int .i64 g.2.1))], [(0, some (.box [.d (.sl (List.map iD v1)), .d (.int .i64 g.2.2)])), (1002, some (.arr 3 1 (List.map iD g.1)))]⟩) (fun g : List Int × Int × Int => mk_Tape_Sorted_l0 v3 v1 g.1 g.2.1 g.2.2) _ (fun g y43 hx ih33 hr34 => ?_) ([], 0, v2) hx
  obtain ⟨v13, v14, v15⟩ := g
  unfold mk_Tape_Sorted_l0 at hx
  try dsimp only at hx ⊢
  refine Walk.seq (Walk.seq (Walk.region' rfl fun K hK => ?_))
  simp only [go_sem, seval]
  refine hK _ ?_
  clear hK K
  refine Walk.condO rfl hx (fun c37 hx => ?_) (fun c37 hx => ?_)
  · refine Walk.skip (Walk.seq (Walk.block (Walk.seq (Walk.region' rfl fun K hK => ?_))))
    obtain ⟨v17, h38, hx⟩ := bind_elim hx
    simp only [go_sem, seval, c37]
    refine VCl.sub [(0, some (.box [.d (.sl (List.map iD v1)), .d (.int .i64 v15)]))] [] rfl (by simp only [go_sem, seval, AV.viewXs, AV.viewX, avD, c37]; try simp) (mk_Tape_Next_ok v1 v15 2 _ h38) (by simp [c37]) (by simp [c37]) (by simp [c37]) (by simp [c37]) (by simp [c37]) (by simp [c37]) (by simp [c37]) (by simp [c37]) (by simp [c37]) (by simp [c37]) ?_
    simp only [go_sem, seval, c37]
    refine hK _ ?_
    clear hK K
    refine Walk.weaken ⟨[(0, .box 0 0), (1, .d (.int .i64 v3)), (5, .arr 1002 0 v13.length), (6, .d (.int .i64 v14)), (14, .d (.bool (decide (v17.1 = 1))))], [(0, some (.box [.d (.sl (List.map iD v1)), .d (.int .i64 v17.2)])), (1002, some (.arr 3 1 (List.map iD v13)))]⟩ (by simp [c37] <;> omega) (by simp [c37] <;> omega) ?_
    refine Walk.condO rfl hx (fun c39 hx => ?_) (fun c39 hx => ?_)
    · refine Walk.region' rfl fun K hK => ?_
      obtain ⟨k40, hx⟩ := chk_elim hx
      simp only [go_sem, seval, c37, c39, k40]
      repeat refine And.intro (by first | omega | (simp; done) | (simp; omega)) ?_
      refine hK _ ?_
      clear hK K
      refine Walk.weaken ⟨[(0, .box 0 0), (1, .d (.int .i64 v3)), (5, .arr 1002 0 ((v13 ++ [v14]).length)), (6, .d (.int .i64 v14))], [(0, some (.box [.d (.sl (List.map iD v1)), .d (.int .i64 v17.2)])), (1002, some (.arr 3 1 (List.map iD (v13 ++ [v14]))))]⟩ (by simp [c37, c39, k40] <;> omega) (by simp [c37, c39, k40] <;> omega) ?_
      refine Walk.inBlock (Walk.region' rfl fun K hK => ?_)
      simp only [go_sem, seval, c37, c39, k40]
      refine hK _ ?_
      clear hK K
      exact Walk.weaken _ (by simp [c37, c39, k40] <;> omega) (by simp [c37, c39, k40] <;> omega) (ih33 _ (cont_elim hx))
    refine Walk.skip (Walk.inBlock (Walk.region' rfl fun K hK => ?_))
    simp only [go_sem, seval, c37, c39]
    refine hK _ ?_
    clear hK K
    exact Walk.weaken _ (by simp [c37, c39] <;> omega) (by simp [c37, c39] <;> omega) (ih33 _ (cont_elim hx))
  refine Walk.exit rfl ?_
  obtain ⟨z41, e42, hx⟩ := exit_elim hx
  rw [hr34 z41 e42] at hx
  refine Walk.seq (Walk.region' rfl fun K hK => ?_)
  simp only [go_sem, seval, c37]
  refine hK _ ?_
  clear hK K
  refine Walk.weaken ⟨[(4, .arr 1002 0 v13.length)], [(0, some (.box [.d (.sl (List.map iD v1)), .d (.int .i64 v15)])), (1002, some (.arr 3 1 (List.map iD v13)))]⟩ (by simp [c37] <;> omega) (by simp [c37] <;> omega) ?_
  refine Walk.rename 1002 2000 (by omega) (by omega) (by simp) (by simp) ?_
  simp only [renE, renL, AV.ren, AV.rens, AObj.ren, swp, Option.map_some, reduceIte, Nat.reduceEqDiff]
  obtain rfl := Option.some.inj hx
  exact Walk.ret ⟨by simp [c37], by simp [c37]⟩
noncomputable def ref06_Has_l0 (v1 : List Int) (v2 : Int) (v9 : Int) : Option ((Int) ⊕ (Bool)) :=
  bif decide (v9 < (v1.length : Int)) then ((rd v1 v9).bind fun v11 => bif decide (v11 = v2) then (exitO (some (true : Bool))) else (contO (IntKind.i64.wrap (v9 + 1) : Int))) else (exitO (some (false : Bool)))
noncomputable def ref06_Has (v1 : List Int) (v2 : Int) : Option (Bool) :=
  iter (fun g : Int => ref06_Has_l0 v1 v2 g) 0
theorem ref06_Has_ok (v1 : List Int) (v2 : Int) (r : Bool) (hx : ref06_Has v1 v2 = some r) :
    ACalls Try.prog 55 [.d (.sl (List.map iD v1)), .d (.int .i64 v2)] [] (.d (.bool r)) [] := by
  refine ACalls.of_sem (n := 18) 0 [4] (fn := Try.f55) Try.func55 rfl rfl (.one rfl) rfl (by simp) (by intro i; simp only [hget]; (repeat' split) <;> simp <;> omega) ?_
  unfold ref06_Has at hx
  refine Walk.seq (Walk.region' rfl fun K hK => ?_)
  simp only [go_sem, seval]
  refine hK _ ?_
  clear hK K
  refine Walk.seq (Walk.seq (Walk.region' rfl fun K hK => ?_))
  simp only [go_sem, seval]
  refine hK _ ?_
  clear hK K
  refine Walk.block (Walk.loop ?_)
  refine Walk.weaken ⟨[(0, .d (.sl (List.map iD v1))), (1, .d (.int .i64 v2)), (5, .d (.int .i64 0))], []⟩ (by simp <;> omega) (by simp <;> omega) ?_
  refine Walk.iter (σ := Int) (fun g => ⟨[(0, .d (.sl (List.map iD v1))), (1, .d (.int .i64 v2)), (5, .d (.int .i64 g))], []⟩) (fun g : Int => ref06_Has_l0 v1 v2 g) _ (fun v9 y59 hx ih45 hr46 => ?_) 0 hx
  unfold ref06_Has_l0 at hx
  try dsimp only at hx ⊢
  refine Walk.seq (Walk.seq (Walk.region' rfl fun K hK => ?_))
  simp only [go_sem, seval]
  refine hK _ ?_
  clear hK K
  refine Walk.condO rfl hx (fun c49 hx => ?_) (fun c49 hx => ?_)
  · refine Walk.skip (Walk.seq (Walk.block (Walk.seq (Walk.region' rfl fun K hK => ?_))))
    obtain ⟨v11, r50, a51, b52, c53, hx⟩ := rd_elim hx
    simp only [go_sem, seval, c49, a51, b52, c53]
    repeat refine And.intro (by first | omega | (simp; done) | (simp; omega)) ?_
    refine hK _ ?_
    clear hK K
    refine Walk.condO rfl hx (fun c54 hx => ?_) (fun c54 hx => ?_)
    · refine Walk.seq (Walk.region' rfl fun K hK => ?_)
      simp only [go_sem, seval, c49, a51, b52, c53, c54]
      refine hK _ ?_
      clear hK K
      obtain ⟨z55, e56, hx⟩ := exit_elim hx
      rw [hr46 z55 e56] at hx
      obtain rfl := Option.some.inj hx
      exact Walk.ret ⟨by simp [c49, a51, b52, c53, c54], by simp [c49, a51, b52, c53, c54]⟩
    refine Walk.skip (Walk.inBlock (Walk.region' rfl fun K hK => ?_))
    simp only [go_sem, seval, c49, a51, b52, c53, c54]
    refine hK _ ?_
    clear hK K
    exact Walk.weaken _ (by simp [c49, a51, b52, c53, c54] <;> omega) (by simp [c49, a51, b52, c53, c54] <;> omega) (ih45 _ (cont_elim hx))
  refine Walk.exit rfl ?_
  obtain ⟨z57, e58, hx⟩ := exit_elim hx
  rw [hr46 z57 e58] at hx
  refine Walk.seq (Walk.region' rfl fun K hK => ?_)
  simp only [go_sem, seval, c49]
  refine hK _ ?_
  clear hK K
  obtain rfl := Option.some.inj hx
  exact Walk.ret ⟨by simp [c49], by simp [c49]⟩
noncomputable def ref10_Repeat_j1 (v61 : List Int) (v60 : Int) (v65 : Int) : Option ((Int × List Int) ⊕ (Int × List Int × List Row)) :=
  chk ((v61.length + 1) * 8 ≤ 140737488355328) (contO ((IntKind.i64.wrap (v60 + 1), (v61 ++ [v65])) : Int × List Int))
noncomputable def ref10_Repeat_l0 (v1 : List Int) (v4 : List Int) (v2 : List Row) (v60 : Int) (v61 : List Int) : Option ((Int × List Int) ⊕ (Int × List Int × List Row)) :=
  bif decide (v60 < (v1.length : Int)) then ((ref06_Has v4 v60).bind fun v66 => bif v66 then (ref10_Repeat_j1 v61 v60 1) else (ref10_Repeat_j1 v61 v60 (-1))) else (exitO (chk ((v2.length) * 40 ≤ 140737488355328) (chk ((v2.length + 1) * 40 ≤ 140737488355328) (some ((0, v1, (v2 ++ [(Row.mk v61 (-12) (IntKind.i64.wrap ((v4.length : Int) - 1)))])) : Int × List Int × List Row)))))
noncomputable def ref10_Repeat (v1 : List Int) (v2 : List Row) (v3 : Bool) (v4 : List Int) (v5 : Int) (v6 : List Node) : Option (Int × List Int × List Row) :=
  (ref08_Valid v1 v2).bind fun v39 => bif !v39 then (some ((1, [], []) : Int × List Int × List Row)) else (bif !v3 then (some ((10, [], []) : Int × List Int × List Row)) else ((ref08_Choice (v1.length : Int) v4).bind fun v41 => bif !v41 then (some ((10, [], []) : Int × List Int × List Row)) else (bif decide ((v2.length : Int) ≥ 60) then (some ((3, [], []) : Int × List Int × List Row)) else (iter (fun g : Int × List Int => ref10_Repeat_l0 v1 v4 v2 g.1 g.2) (0, [])))))
theorem ref10_Repeat_ok (v1 : List Int) (v2 : List Row) (v3 : Bool) (v4 : List Int) (v5 : Int) (v6 : List Node) (r : Int × List Int × List Row) (hx : ref10_Repeat v1 v2 v3 v4 v5 v6 = some r) :
    ACalls Try.prog 26 [.agg [.d (.sl (List.map iD v1)), .d (.sl (List.map Row.D v2))], .agg [.d (.bool v3), .d (.sl (List.map iD v4)), .d (.int .i64 v5), .d (.sl (List.map Node.D v6))]] [] (.tup [.agg [.d (.sl (List.map iD r.2.1)), .arr 2001 0 r.2.2.length], .d (.int .i64 r.1)]) [(2001, some (.arr 47 3 (List.map Row.D r.2.2)))] := by
  refine ACalls.of_cell2S (n := 65) 0 4 25 5 (fn := Try.f26) Try.func26 rfl rfl rfl rfl (by simp) (by intro i; simp only [hget]; (repeat' split) <;> simp <;> omega) ?_
  unfold ref10_Repeat at hx
  refine Walk.seq (Walk.region' rfl fun K hK => ?_)
  simp only [go_sem, seval]
  refine hK _ ?_
  clear hK K
  refine Walk.seq (Walk.seq (Walk.region' rfl fun K hK => ?_))
  obtain ⟨v39, h83, hx⟩ := bind_elim hx
  simp only [go_sem, seval]
  refine VCl.pure rfl (by simp only [go_sem, seval]; try simp) (ref08_Valid_ok v1 v2 _ h83) (by simp only [go_sem, seval]; try simp) (by simp only [go_sem, seval]; try simp) (by simp only [go_sem, seval]; try simp) (by simp only [go_sem, seval]; try simp) (by simp only [go_sem, seval]; try simp) (by simp only [go_sem, seval]; try simp) ?_
  simp only [go_sem, seval]
  refine hK _ ?_
  clear hK K
  refine Walk.condO rfl hx (fun c85 hx => ?_) (fun c85 hx => ?_)
  · refine Walk.seq (Walk.region' rfl fun K hK => ?_)
    simp only [go_sem, seval, c85]
    refine hK _ ?_
    clear hK K
    refine Walk.weaken ⟨[(4, .box 4 0), (5, .d (.int .i64 1))], [(4, some (.box [.nils, .nils]))]⟩ (by simp [c85] <;> omega) (by simp [c85] <;> omega) ?_
    refine Walk.nil2d [(4, .box 4 0), (5, .d (.int .i64 1))] [(4, some (.box [.d (.sl (List.map iD [])), .nils]))] (by simp) (by simp) ?_
    refine Walk.up 2001 47 3 [(4, .box 4 0), (5, .d (.int .i64 1))] [(4, some (.box [.d (.sl (List.map iD [])), .arr 2001 0 0]))] (by simp) (by simp) (by omega) (by simp) (by simp) (by simp) ?_
    refine Walk.rename 4 2000 (by omega) (by omega) (by simp) (by simp) ?_
    simp only [renE, renL, AV.ren, AV.rens, AObj.ren, swp, Option.map_some, reduceIte, Nat.reduceEqDiff]
    obtain rfl := Option.some.inj hx
    exact Walk.ret ⟨2000, 0, by simp, by simp, by simp [c85], by simp [c85]⟩
  refine Walk.skip (Walk.seq (Walk.seq (Walk.region' rfl fun K hK => ?_)))
  simp only [go_sem, seval, c85]
  refine VGdO hx (fun g89 hx => ?_) (fun g89 hx => ?_)
  · simp only [go_sem, seval, c85, g89]
    refine hK _ ?_
    clear hK K
    refine Walk.condT rfl (Walk.seq (Walk.region' rfl fun K hK => ?_))
    simp only [go_sem, seval, c85, g89]
    refine hK _ ?_
    clear hK K
    refine Walk.weaken ⟨[(4, .box 4 0), (5, .d (.int .i64 10))], [(4, some (.box [.nils, .nils]))]⟩ (by simp [c85, g89] <;> omega) (by simp [c85, g89] <;> omega) ?_
    refine Walk.nil2d [(4, .box 4 0), (5, .d (.int .i64 10))] [(4, some (.box [.d (.sl (List.map iD [])), .nils]))] (by simp) (by simp) ?_
    refine Walk.up 2001 47 3 [(4, .box 4 0), (5, .d (.int .i64 10))] [(4, some (.box [.d (.sl (List.map iD [])), .arr 2001 0 0]))] (by simp) (by simp) (by omega) (by simp) (by simp) (by simp) ?_
    refine Walk.rename 4 2000 (by omega) (by omega) (by simp) (by simp) ?_
    simp only [renE, renL, AV.ren, AV.rens, AObj.ren, swp, Option.map_some, reduceIte, Nat.reduceEqDiff]
    obtain rfl := Option.some.inj hx
    exact Walk.ret ⟨2000, 0, by simp, by simp, by simp [c85, g89], by simp [c85, g89]⟩
  obtain ⟨v41, h90, hx⟩ := bind_elim hx
  simp only [go_sem, seval, c85, g89]
  refine VCl.pure rfl (by simp only [go_sem, seval, c85, g89]; try simp) (ref08_Choice_ok (v1.length : Int) v4 _ h90) (by simp only [go_sem, seval, c85, g89]; try simp) (by simp only [go_sem, seval, c85, g89]; try simp) (by simp only [go_sem, seval, c85, g89]; try simp) (by simp only [go_sem, seval, c85, g89]; try simp) (by simp only [go_sem, seval, c85, g89]; try simp) (by simp only [go_sem, seval, c85, g89]; try simp) ?_
  simp only [go_sem, seval, c85, g89]
  refine hK _ ?_
  clear hK K
  refine Walk.condO rfl hx (fun c92 hx => ?_) (fun c92 hx => ?_)
  · refine Walk.seq (Walk.region' rfl fun K hK => ?_)
    simp only [go_sem, seval, c85, g89, c92]
    refine hK _ ?_
    clear hK K
    refine Walk.weaken ⟨[(4, .box 4 0), (5, .d (.int .i64 10))], [(4, some (.box [.nils, .nils]))]⟩ (by simp [c85, g89, c92] <;> omega) (by simp [c85, g89, c92] <;> omega) ?_
    refine Walk.nil2d [(4, .box 4 0), (5, .d (.int .i64 10))] [(4, some (.box [.d (.sl (List.map iD [])), .nils]))] (by simp) (by simp) ?_
    refine Walk.up 2001 47 3 [(4, .box 4 0), (5, .d (.int .i64 10))] [(4, some (.box [.d (.sl (List.map iD [])), .arr 2001 0 0]))] (by simp) (by simp) (by omega) (by simp) (by simp) (by simp) ?_
    refine Walk.rename 4 2000 (by omega) (by omega) (by simp) (by simp) ?_
    simp only [renE, renL, AV.ren, AV.rens, AObj.ren, swp, Option.map_some, reduceIte, Nat.reduceEqDiff]
    obtain rfl := Option.some.inj hx
    exact Walk.ret ⟨2000, 0, by simp, by simp, by simp [c85, g89, c92], by simp [c85, g89, c92]⟩
  refine Walk.skip (Walk.seq (Walk.seq (Walk.region' rfl fun K hK => ?_)))
  simp only [go_sem, seval, c85, g89, c92]
  refine hK _ ?_
  clear hK K
  refine Walk.condO rfl hx (fun c95 hx => ?_) (fun c95 hx => ?_)
  · refine Walk.seq (Walk.region' rfl fun K hK => ?_)
    simp only [go_sem, seval, c85, g89, c92, c95]
    refine hK _ ?_
    clear hK K
    refine Walk.weaken ⟨[(4, .box 4 0), (5, .d (.int .i64 3))], [(4, some (.box [.nils, .nils]))]⟩ (by simp [c85, g89, c92, c95] <;> omega) (by simp [c85, g89, c92, c95] <;> omega) ?_
    refine Walk.nil2d [(4, .box 4 0), (5, .d (.int .i64 3))] [(4, some (.box [.d (.sl (List.map iD [])), .nils]))] (by simp) (by simp) ?_
    refine Walk.up 2001 47 3 [(4, .box 4 0), (5, .d (.int .i64 3))] [(4, some (.box [.d (.sl (List.map iD [])), .arr 2001 0 0]))] (by simp) (by simp) (by omega) (by simp) (by simp) (by simp) ?_
    refine Walk.rename 4 2000 (by omega) (by omega) (by simp) (by simp) ?_
    simp only [renE, renL, AV.ren, AV.rens, AObj.ren, swp, Option.map_some, reduceIte, Nat.reduceEqDiff]
    obtain rfl := Option.some.inj hx
    exact Walk.ret ⟨2000, 0, by simp, by simp, by simp [c85, g89, c92, c95], by simp [c85, g89, c92, c95]⟩
  refine Walk.skip (Walk.seq (Walk.region' rfl fun K hK => ?_))
  simp only [go_sem, seval, c85, g89, c92, c95]
  refine hK _ ?_
  clear hK K
  refine Walk.seq (Walk.seq (Walk.region' rfl fun K hK => ?_))
  simp only [go_sem, seval, c85, g89, c92, c95]
  refine hK _ ?_
  clear hK K
  refine Walk.block (Walk.loop ?_)
  refine Walk.weaken ⟨[(2, .box 2 0), (3, .box 3 0), (4, .box 4 0), (6, .box 6 0), (7, .d (.int .i64 0))], [(2, some (.box [.d (.sl (List.map iD v1)), .d (.sl (List.map Row.D v2))])), (3, some (.box [.d (.bool v3), .d (.sl (List.map iD v4)), .d (.int .i64 v5), .d (.sl (List.map Node.D v6))])), (4, some (.box [.nils, .nils])), (6, some (.box [.nils, .d (.int .i64 (-12)), .d (.int .i64 (IntKind.i64.wrap ((v4.length : Int) - 1)))]))]⟩ (by simp [c85, g89, c92, c95] <;> omega) (by simp [c85, g89, c92, c95] <;> omega) ?_
  refine Walk.up 1007 3 1 [(2, .box 2 0), (3, .box 3 0), (4, .box 4 0), (6, .box 6 0), (7, .d (.int .i64 0))] [(2, some (.box [.d (.sl (List.map iD v1)), .d (.sl (List.map Row.D v2))])), (3, some (.box [.d (.bool v3), .d (.sl (List.map iD v4)), .d (.int .i64 v5), .d (.sl (List.map Node.D v6))])), (4, some (.box [.nils, .nils])), (6, some (.box [.arr 1007 0 0, .d (.int .i64 (-12)), .d (.int .i64 (IntKind.i64.wrap ((v4.length : Int) - 1)))]))] (by simp) (by simp) (by omega) (by simp) (by simp) (by simp) ?_
  refine Walk.weaken ⟨[(2, .box 2 0), (3, .box 3 0), (4, .box 4 0), (6, .box 6 0), (7, .d (.int .i64 0))], [(2, some (.box [.d (.sl (List.map iD v1)), .d (.sl (List.map Row.D v2))])), (3, some (.box [.d (.bool v3), .d (.sl (List.map iD v4)), .d (.int .i64 v5), .d (.sl (List.map Node.D v6))])), (4, some (.box [.nils, .nils])), (6, some (.box [.arr 1007 0 0, .d (.int .i64 (-12)), .d (.int .i64 (IntKind.i64.wrap ((v4.length : Int) - 1)))])), (1007, some (.arr 3 1 (List.map iD [])))]⟩ (by simp [c85, g89, c92, c95] <;> omega) (by simp [c85, g89, c92, c95] <;> omega) ?_
  refine Walk.iter (σ := Int × List Int) (fun g => ⟨[(2, .box 2 0), (3, .box 3 0), (4, .box 4 0), (6, .box 6 0), (7, .d (.int .i64 g.1))], [(2, some (.box [.d (.sl (List.map iD v1)), .d (.sl (List.map Row.D v2))])), (3, some (.box [.d (.bool v3), .d (.sl (List.map iD v4)), .d (.int .i64 v5), .d (.sl (List.map Node.D v6))])), (4, some (.box [.nils, .nils])), (6, some (.box [.arr 1007 0 g.2.length, .d (.int .i64 (-12)), .d (.int .i64 (IntKind.i64.wrap ((v4.length : Int) - 1)))])), (1007, some (.arr 3 1 (List.map iD g.2)))]⟩) (fun g : Int × List Int => ref10_Repeat_l0 v1 v4 v2 g.1 g.2) _ (fun g y164 hx ih149 hr150 => ?_) (0, []) hx
  obtain ⟨v60, v61⟩ := g
  unfold ref10_Repeat_l0 at hx
  try dsimp only at hx ⊢
  refine Walk.seq (Walk.seq (Walk.region' rfl fun K hK => ?_))
  simp only [go_sem, seval, c85, g89, c92, c95]
  refine hK _ ?_
  clear hK K
  refine Walk.condO rfl hx (fun c153 hx => ?_) (fun c153 hx => ?_)
  · refine Walk.skip (Walk.seq (Walk.block (Walk.seq (Walk.region' rfl fun K hK => ?_))))
    simp only [go_sem, seval, c85, g89, c92, c95, c153]
    refine hK _ ?_
    clear hK K
    refine Walk.seq (Walk.join (G := Int) (fun g => ⟨[(2, .box 2 0), (3, .box 3 0), (4, .box 4 0), (6, .box 6 0), (7, .d (.int .i64 v60)), (8, .d (.int .i64 g))], [(2, some (.box [.d (.sl (List.map iD v1)), .d (.sl (List.map Row.D v2))])), (3, some (.box [.d (.bool v3), .d (.sl (List.map iD v4)), .d (.int .i64 v5), .d (.sl (List.map Node.D v6))])), (4, some (.box [.nils, .nils])), (6, some (.box [.arr 1007 0 v61.length, .d (.int .i64 (-12)), .d (.int .i64 (IntKind.i64.wrap ((v4.length : Int) - 1)))])), (1007, some (.arr 3 1 (List.map iD v61)))]⟩) (fun g => ref10_Repeat_j1 v61 v60 g) hx (fun v65 hx => ?_) (fun fin156 => ?_))
    · unfold ref10_Repeat_j1 at hx
      try dsimp only at hx ⊢
      refine Walk.region' rfl fun K hK => ?_
      obtain ⟨k157, hx⟩ := chk_elim hx
      simp only [go_sem, seval, c85, g89, c92, c95, c153, k157]
      repeat refine And.intro (by first | omega | (simp; done) | (simp; omega)) ?_
      refine hK _ ?_
      clear hK K
      refine Walk.weaken ⟨[(2, .box 2 0), (3, .box 3 0), (4, .box 4 0), (6, .box 6 0), (7, .d (.int .i64 v60))], [(2, some (.box [.d (.sl (List.map iD v1)), .d (.sl (List.map Row.D v2))])), (3, some (.box [.d (.bool v3), .d (.sl (List.map iD v4)), .d (.int .i64 v5), .d (.sl (List.map Node.D v6))])), (4, some (.box [.nils, .nils])), (6, some (.box [.arr 1007 0 ((v61 ++ [v65]).length), .d (.int .i64 (-12)), .d (.int .i64 (IntKind.i64.wrap ((v4.length : Int) - 1)))])), (1007, some (.arr 3 1 (List.map iD (v61 ++ [v65]))))]⟩ (by simp [c85, g89, c92, c95, c153, k157] <;> omega) (by simp [c85, g89, c92, c95, c153, k157] <;> omega) ?_
      refine Walk.inBlock (Walk.region' rfl fun K hK => ?_)
      simp only [go_sem, seval, c85, g89, c92, c95, c153, k157]
      refine hK _ ?_
      clear hK K
      exact Walk.weaken _ (by simp [c85, g89, c92, c95, c153, k157] <;> omega) (by simp [c85, g89, c92, c95, c153, k157] <;> omega) (ih149 _ (cont_elim hx))
    refine Walk.seq (Walk.region' rfl fun K hK => ?_)
    obtain ⟨v66, h158, hx⟩ := bind_elim hx
    simp only [go_sem, seval, c85, g89, c92, c95, c153]
    refine VCl.pure rfl (by simp only [go_sem, seval, c85, g89, c92, c95, c153]; try simp) (ref06_Has_ok v4 v60 _ h158) (by simp only [go_sem, seval, c85, g89, c92, c95, c153]; try simp) (by simp only [go_sem, seval, c85, g89, c92, c95, c153]; try simp) (by simp only [go_sem, seval, c85, g89, c92, c95, c153]; try simp) (by simp only [go_sem, seval, c85, g89, c92, c95, c153]; try simp) (by simp only [go_sem, seval, c85, g89, c92, c95, c153]; try simp) (by simp only [go_sem, seval, c85, g89, c92, c95, c153]; try simp) ?_
    simp only [go_sem, seval, c85, g89, c92, c95, c153]
    refine hK _ ?_
    clear hK K
    refine Walk.condO rfl hx (fun c159 hx => ?_) (fun c159 hx => ?_)
    · refine Walk.region' rfl fun K hK => ?_
      simp only [go_sem, seval, c85, g89, c92, c95, c153, c159]
      refine hK _ ?_
      clear hK K
      exact Walk.weaken _ (by simp [c85, g89, c92, c95, c153, c159] <;> omega) (by simp [c85, g89, c92, c95, c153, c159] <;> omega) (fin156 1 hx)
    refine Walk.skip ?_
    exact Walk.weaken _ (by simp [c85, g89, c92, c95, c153, c159] <;> omega) (by simp [c85, g89, c92, c95, c153, c159] <;> omega) (fin156 (-1) hx)
  refine Walk.exit rfl ?_
  obtain ⟨z160, e161, hx⟩ := exit_elim hx
  rw [hr150 z160 e161] at hx
  refine Walk.seq (Walk.region' rfl fun K hK => ?_)
  simp only [go_sem, seval, c85, g89, c92, c95, c153]
  refine hK _ ?_
  clear hK K
  refine Walk.seq (Walk.region' rfl fun K hK => ?_)
  obtain ⟨k162, hx⟩ := chk_elim hx
  simp only [go_sem, seval, c85, g89, c92, c95, c153, k162]
  repeat refine And.intro (by first | omega | (simp; done) | (simp; omega)) ?_
  refine hK _ ?_
  clear hK K
  refine Walk.weaken ⟨[(2, .box 2 0), (4, .box 4 0), (6, .box 6 0), (9, .arr 57 0 v2.length)], [(2, some (.box [.d (.sl (List.map iD v1)), .d (.sl (List.map Row.D v2))])), (4, some (.box [.nils, .nils])), (6, some (.box [.arr 1007 0 v61.length, .d (.int .i64 (-12)), .d (.int .i64 (IntKind.i64.wrap ((v4.length : Int) - 1)))])), (57, some (.arr 47 3 (List.map Row.D v2))), (1007, some (.arr 3 1 (List.map iD v61)))]⟩ (by simp [c85, g89, c92, c95, c153, k162] <;> omega) (by simp [c85, g89, c92, c95, c153, k162] <;> omega) ?_
  refine Walk.seq (Walk.drawn' rfl mixed fun K hK => ?_)
  obtain ⟨k163, hx⟩ := chk_elim hx
  simp only [go_sem, seval, c85, g89, c92, c95, c153, k162, k163]
  repeat refine And.intro (by first | omega | (simp; done) | (simp; omega)) ?_
  refine hK _ _ (by kernel_rfl) (by simp [c85, g89, c92, c95, c153, k162, k163]) ?_
  clear hK K
  refine Walk.weaken ⟨[(4, .box 4 0), (5, .d (.int .i64 0))], [(4, some (.box [.d (.sl (List.map iD v1)), .arr 57 0 (((v2 ++ [(Row.mk v61 (-12) (IntKind.i64.wrap ((v4.length : Int) - 1)))])).length)])), (57, some (.arr 47 3 (List.map Row.D ((v2 ++ [(Row.mk v61 (-12) (IntKind.i64.wrap ((v4.length : Int) - 1)))])))))]⟩ (by simp [c85, g89, c92, c95, c153, k162, k163] <;> omega) (by simp [c85, g89, c92, c95, c153, k162, k163] <;> omega) ?_
  refine Walk.weaken ⟨[(4, .box 4 0), (5, .d (.int .i64 0))], [(4, some (.box [.d (.sl (List.map iD v1)), .arr 57 0 (((v2 ++ [(Row.mk v61 (-12) (IntKind.i64.wrap ((v4.length : Int) - 1)))])).length)])), (57, some (.arr 47 3 (List.map Row.D ((v2 ++ [(Row.mk v61 (-12) (IntKind.i64.wrap ((v4.length : Int) - 1)))])))))]⟩ (by simp [c85, g89, c92, c95, c153, k162, k163] <;> omega) (by simp [c85, g89, c92, c95, c153, k162, k163] <;> omega) ?_
  refine Walk.rename 4 2000 (by omega) (by omega) (by simp) (by simp) ?_
  simp only [renE, renL, AV.ren, AV.rens, AObj.ren, swp, Option.map_some, reduceIte, Nat.reduceEqDiff]
  refine Walk.rename 57 2001 (by omega) (by omega) (by simp) (by simp) ?_
  simp only [renE, renL, AV.ren, AV.rens, AObj.ren, swp, Option.map_some, reduceIte, Nat.reduceEqDiff]
  obtain rfl := Option.some.inj hx
  exact Walk.ret ⟨2000, 0, by simp, by simp, by simp [c85, g89, c92, c95, c153, k162, k163], by simp [c85, g89, c92, c95, c153, k162, k163]⟩
noncomputable def law10_samePrograms_l0 (v2 : List Row) (v4 : List Row) (v23 : Int) : Option ((Int) ⊕ (Bool)) :=
  bif decide (v23 < (v2.length : Int)) then ((rd v2 v23).bind fun v27 => (rd v4 v23).bind fun v28 => bif decide (¬ v27.Least = v28.Least) then (exitO (some (false : Bool))) else (bif decide (¬ v27.Most = v28.Most) then (exitO (some (false : Bool))) else ((ref06_Ints v27.Coefs v28.Coefs).bind fun v29 => bif !v29 then (exitO (some (false : Bool))) else (contO (IntKind.i64.wrap (v23 + 1) : Int))))) else (exitO (some (true : Bool)))
noncomputable def law10_samePrograms (v1 : List Int) (v2 : List Row) (v3 : List Int) (v4 : List Row) : Option (Bool) :=
  (ref06_Ints v1 v3).bind fun v19 => bif !v19 then (some (false : Bool)) else (bif decide (¬ (v2.length : Int) = (v4.length : Int)) then (some (false : Bool)) else (iter (fun g : Int => law10_samePrograms_l0 v2 v4 g) 0))
theorem law10_samePrograms_ok (v1 : List Int) (v2 : List Row) (v3 : List Int) (v4 : List Row) (r : Bool) (hx : law10_samePrograms v1 v2 v3 v4 = some r) :
    ACalls Try.prog 27 [.agg [.d (.sl (List.map iD v1)), .d (.sl (List.map Row.D v2))], .agg [.d (.sl (List.map iD v3)), .d (.sl (List.map Row.D v4))]] [] (.d (.bool r)) [] := by
  refine ACalls.of_sem (n := 72) 0 [4] (fn := Try.f27) Try.func27 rfl rfl (.one rfl) rfl (by simp) (by intro i; simp only [hget]; (repeat' split) <;> simp <;> omega) ?_
  unfold law10_samePrograms at hx
  refine Walk.seq (Walk.region' rfl fun K hK => ?_)
  simp only [go_sem, seval]
  refine hK _ ?_
  clear hK K
  refine Walk.seq (Walk.seq (Walk.region' rfl fun K hK => ?_))
  obtain ⟨v19, h60, hx⟩ := bind_elim hx
  simp only [go_sem, seval]
  refine VCl.pure rfl (by simp only [go_sem, seval]; try simp) (ref06_Ints_ok v1 v3 _ h60) (by simp only [go_sem, seval]; try simp) (by simp only [go_sem, seval]; try simp) (by simp only [go_sem, seval]; try simp) (by simp only [go_sem, seval]; try simp) (by simp only [go_sem, seval]; try simp) (by simp only [go_sem, seval]; try simp) ?_
  simp only [go_sem, seval]
  refine VGdO hx (fun g61 hx => ?_) (fun g61 hx => ?_)
  · simp only [go_sem, seval, g61]
    refine hK _ ?_
    clear hK K
    refine Walk.condT rfl (Walk.seq (Walk.region' rfl fun K hK => ?_))
    simp only [go_sem, seval, g61]
    refine hK _ ?_
    clear hK K
    obtain rfl := Option.some.inj hx
    exact Walk.ret ⟨by simp [g61], by simp [g61]⟩
  simp only [go_sem, seval, g61]
  refine hK _ ?_
  clear hK K
  refine Walk.condO rfl hx (fun c63 hx => ?_) (fun c63 hx => ?_)
  · refine Walk.seq (Walk.region' rfl fun K hK => ?_)
    simp only [go_sem, seval, g61, c63]
    refine hK _ ?_
    clear hK K
    obtain rfl := Option.some.inj hx
    exact Walk.ret ⟨by simp [g61, c63], by simp [g61, c63]⟩
  refine Walk.skip (Walk.seq (Walk.seq (Walk.region' rfl fun K hK => ?_)))
  simp only [go_sem, seval, g61, c63]
  refine hK _ ?_
  clear hK K
  refine Walk.block (Walk.loop ?_)
  refine Walk.weaken ⟨[(2, .box 2 0), (3, .box 3 0), (5, .d (.int .i64 0))], [(2, some (.box [.d (.sl (List.map iD v1)), .d (.sl (List.map Row.D v2))])), (3, some (.box [.d (.sl (List.map iD v3)), .d (.sl (List.map Row.D v4))]))]⟩ (by simp [g61, c63] <;> omega) (by simp [g61, c63] <;> omega) ?_
  refine Walk.iter (σ := Int) (fun g => ⟨[(2, .box 2 0), (3, .box 3 0), (5, .d (.int .i64 g))], [(2, some (.box [.d (.sl (List.map iD v1)), .d (.sl (List.map Row.D v2))])), (3, some (.box [.d (.sl (List.map iD v3)), .d (.sl (List.map Row.D v4))]))]⟩) (fun g : Int => law10_samePrograms_l0 v2 v4 g) _ (fun v23 y119 hx ih94 hr95 => ?_) 0 hx
  unfold law10_samePrograms_l0 at hx
  try dsimp only at hx ⊢
  refine Walk.seq (Walk.seq (Walk.region' rfl fun K hK => ?_))
  simp only [go_sem, seval, g61, c63]
  refine hK _ ?_
  clear hK K
  refine Walk.condO rfl hx (fun c98 hx => ?_) (fun c98 hx => ?_)
  · refine Walk.skip (Walk.seq (Walk.block (Walk.seq (Walk.drawn' rfl mixed fun K hK => ?_))))
    obtain ⟨v27, r99, a100, b101, c102, hx⟩ := rd_elim hx
    obtain ⟨v28, r103, a104, b105, c106, hx⟩ := rd_elim hx
    simp only [go_sem, seval, g61, c63, c98, a100, b101, c102, a104, b105, c106]
    repeat refine And.intro (by first | omega | (simp; done) | (simp; omega)) ?_
    refine VGdO hx (fun g107 hx => ?_) (fun g107 hx => ?_)
    · simp only [go_sem, seval, g61, c63, c98, a100, b101, c102, a104, b105, c106, g107]
      refine hK _ _ (by kernel_rfl) (by simp [g61, c63, c98, a100, b101, c102, a104, b105, c106, g107]) ?_
      clear hK K
      refine Walk.condT rfl (Walk.seq (Walk.region' rfl fun K hK => ?_))
      simp only [go_sem, seval, g61, c63, c98, a100, b101, c102, a104, b105, c106, g107]
      refine hK _ ?_
      clear hK K
      obtain ⟨z108, e109, hx⟩ := exit_elim hx
      rw [hr95 z108 e109] at hx
      obtain rfl := Option.some.inj hx
      exact Walk.ret ⟨by simp [g61, c63, c98, a100, b101, c102, a104, b105, c106, g107], by simp [g61, c63, c98, a100, b101, c102, a104, b105, c106, g107]⟩
    simp only [go_sem, seval, g61, c63, c98, a100, b101, c102, a104, b105, c106, g107]
    repeat refine And.intro (by first | omega | (simp; done) | (simp; omega)) ?_
    refine VGdO hx (fun g110 hx => ?_) (fun g110 hx => ?_)
    · simp only [go_sem, seval, g61, c63, c98, a100, b101, c102, a104, b105, c106, g107, g110]
      refine hK _ _ (by kernel_rfl) (by simp [g61, c63, c98, a100, b101, c102, a104, b105, c106, g107, g110]) ?_
      clear hK K
      refine Walk.condT rfl (Walk.seq (Walk.region' rfl fun K hK => ?_))
      simp only [go_sem, seval, g61, c63, c98, a100, b101, c102, a104, b105, c106, g107, g110]
      refine hK _ ?_
      clear hK K
      obtain ⟨z111, e112, hx⟩ := exit_elim hx
      rw [hr95 z111 e112] at hx
      obtain rfl := Option.some.inj hx
      exact Walk.ret ⟨by simp [g61, c63, c98, a100, b101, c102, a104, b105, c106, g107, g110], by simp [g61, c63, c98, a100, b101, c102, a104, b105, c106, g107, g110]⟩
    obtain ⟨v29, h113, hx⟩ := bind_elim hx
    simp only [go_sem, seval, g61, c63, c98, a100, b101, c102, a104, b105, c106, g107, g110]
    repeat refine And.intro (by first | omega | (simp; done) | (simp; omega)) ?_
    refine VCl.pure rfl (by simp only [go_sem, seval, g61, c63, c98, a100, b101, c102, a104, b105, c106, g107, g110]; try simp) (ref06_Ints_ok v27.Coefs v28.Coefs _ h113) (by simp only [go_sem, seval, g61, c63, c98, a100, b101, c102, a104, b105, c106, g107, g110]; try simp) (by simp only [go_sem, seval, g61, c63, c98, a100, b101, c102, a104, b105, c106, g107, g110]; try simp) (by simp only [go_sem, seval, g61, c63, c98, a100, b101, c102, a104, b105, c106, g107, g110]; try simp) (by simp only [go_sem, seval, g61, c63, c98, a100, b101, c102, a104, b105, c106, g107, g110]; try simp) (by simp only [go_sem, seval, g61, c63, c98, a100, b101, c102, a104, b105, c106, g107, g110]; try simp) (by simp only [go_sem, seval, g61, c63, c98, a100, b101, c102, a104, b105, c106, g107, g110]; try simp) ?_
    simp only [go_sem, seval, g61, c63, c98, a100, b101, c102, a104, b105, c106, g107, g110]
    refine hK _ _ (by kernel_rfl) (by simp [g61, c63, c98, a100, b101, c102, a104, b105, c106, g107, g110]) ?_
    clear hK K
    refine Walk.condO rfl hx (fun c114 hx => ?_) (fun c114 hx => ?_)
    · refine Walk.seq (Walk.region' rfl fun K hK => ?_)
      simp only [go_sem, seval, g61, c63, c98, a100, b101, c102, a104, b105, c106, g107, g110, c114]
      refine hK _ ?_
      clear hK K
      obtain ⟨z115, e116, hx⟩ := exit_elim hx
      rw [hr95 z115 e116] at hx
      obtain rfl := Option.some.inj hx
      exact Walk.ret ⟨by simp [g61, c63, c98, a100, b101, c102, a104, b105, c106, g107, g110, c114], by simp [g61, c63, c98, a100, b101, c102, a104, b105, c106, g107, g110, c114]⟩
    refine Walk.skip (Walk.inBlock (Walk.region' rfl fun K hK => ?_))
    simp only [go_sem, seval, g61, c63, c98, a100, b101, c102, a104, b105, c106, g107, g110, c114]
    refine hK _ ?_
    clear hK K
    exact Walk.weaken _ (by simp [g61, c63, c98, a100, b101, c102, a104, b105, c106, g107, g110, c114] <;> omega) (by simp [g61, c63, c98, a100, b101, c102, a104, b105, c106, g107, g110, c114] <;> omega) (ih94 _ (cont_elim hx))
  refine Walk.exit rfl ?_
  obtain ⟨z117, e118, hx⟩ := exit_elim hx
  rw [hr95 z117 e118] at hx
  refine Walk.seq (Walk.region' rfl fun K hK => ?_)
  simp only [go_sem, seval, g61, c63, c98]
  refine hK _ ?_
  clear hK K
  obtain rfl := Option.some.inj hx
  exact Walk.ret ⟨by simp [g61, c63, c98], by simp [g61, c63, c98]⟩
noncomputable def law10_AssemblyRepeats_j1 (v27 : Int × List Row × List Int) (v28 : Int × Int) (v31 : List Int) (v43 : List Row) : Option (Bool) :=
  (assembly_Repeat v27.2.2 v43 (decide (v28.1 > 0)) v31 0 []).bind fun v44 => (ref10_Repeat v27.2.2 v43 (decide (v28.1 > 0)) v31 0 []).bind fun v45 => (law10_samePrograms v44.2.1 v44.2.2 v45.2.1 v45.2.2).bind fun v46 => bif v46 then (bif decide (v44.1 = v45.1) then ((law10_awake).bind fun v47 => some (v47 : Bool)) else (some (false : Bool))) else (some (false : Bool))
noncomputable def law10_AssemblyRepeats_l2 (v26 : List Int) (v27 : Int × List Row × List Int) (v28 : Int × Int) (v31 : List Int) (v51 : Int) (v52 : List Row) (v53 : Int) : Option ((Int × List Row × Int) ⊕ (Bool)) :=
  bif decide (v51 > 0) then ((mk_Tape_One v26 v53 3).bind fun v57 => bif v57.1 then (chk ((0 : Int) ≤ (v27.2.2.length : Int) ∧ (v27.2.2.length : Int) = (v27.2.2.length : Int) ∧ 8 * (v27.2.2.length : Int) ≤ 281474976710656 ∧ (v27.2.2.length : Int) ≤ 281474976710656) (chk ((v52.length + 1) * 40 ≤ 140737488355328) (contO ((IntKind.i64.wrap (v51 - 1), (v52 ++ [(Row.mk ((List.replicate v27.2.2.length (0 : Int))) 0 0)]), v57.2) : Int × List Row × Int)))) else (exitO (law10_AssemblyRepeats_j1 v27 v28 v31 v52))) else (exitO (law10_AssemblyRepeats_j1 v27 v28 v31 v52))
noncomputable def law10_AssemblyRepeats_j0 (v26 : List Int) (v27 : Int × List Row × List Int) (v28 : Int × Int) (v31 : List Int) (v32 : Int) : Option (Bool) :=
  (mk_Tape_Next v26 v32 2).bind fun v48 => iter (fun g : Int × List Row × Int => law10_AssemblyRepeats_l2 v26 v27 v28 v31 g.1 g.2.1 g.2.2) (IntKind.i64.wrap (v48.1 * 60), v27.2.1, v48.2)
noncomputable def law10_AssemblyRepeats (v1 : List Int) (v2 : List Int) : Option (Bool) :=
  (mk_New v1).bind fun v26 => (mk_Tape_Program v26 0 6 8).bind fun v27 => (mk_Tape_Next v26 v27.1 5).bind fun v28 => (mk_Tape_Sorted v26 v28.2 (v27.2.2.length : Int)).bind fun v29 => (mk_Tape_One v26 v29.1 6).bind fun v58 => bif v58.1 then (law10_AssemblyRepeats_j0 v26 v27 v28 v2 v58.2) else (law10_AssemblyRepeats_j0 v26 v27 v28 v29.2 v58.2)
theorem law10_AssemblyRepeats_ok (v1 : List Int) (v2 : List Int) (r : Bool) (hx : law10_AssemblyRepeats v1 v2 = some r) :
    ACalls Try.prog 6 [.d (.sl (List.map iD v1)), .d (.sl (List.map iD v2))] [] (.d (.bool r)) [] := by
  refine ACalls.of_sem (n := 74) 0 [4] (fn := Try.f6) Try.func6 rfl rfl (.one rfl) rfl (by simp) (by intro i; simp only [hget]; (repeat' split) <;> simp <;> omega) ?_
  unfold law10_AssemblyRepeats at hx
  refine Walk.seq (Walk.region' rfl fun K hK => ?_)
  simp only [go_sem, seval]
  refine hK _ ?_
  clear hK K
  refine Walk.seq (Walk.region' rfl fun K hK => ?_)
  obtain ⟨v26, h61, hx⟩ := bind_elim hx
  have w62 := ((mk_New_ok v1 _ h61).swap 2000 1008)
  simp only [renE, renL, AV.ren, AV.rens, AObj.ren, swp, Option.map_some, reduceIte, Nat.reduceEqDiff] at w62
  simp only [go_sem, seval]
  refine VCl.sub [] [] rfl (by simp only [go_sem, seval, AV.viewXs, AV.viewX, avD]; try simp) (w62) (by simp) (by simp) (by simp) (by simp) (by simp) (by simp) (by simp) (by simp) (by simp) (by simp) ?_
  simp only [go_sem, seval]
  refine hK _ ?_
  clear hK K
  refine Walk.weaken ⟨[(1, .d (.sl (List.map iD v2))), (5, .box 1008 0)], [(1008, some (.box [.d (.sl (List.map iD v26)), .d (.int .i64 0)]))]⟩ (by simp <;> omega) (by simp <;> omega) ?_
  refine Walk.seq (Walk.region' rfl fun K hK => ?_)
  obtain ⟨v27, h63, hx⟩ := bind_elim hx
  have w64 := ((((mk_Tape_Program_ok v26 0 6 8 _ h63).swap 0 1008).swap 2001 1009).swap 2002 1010)
  simp only [renE, renL, AV.ren, AV.rens, AObj.ren, swp, Option.map_some, reduceIte, Nat.reduceEqDiff] at w64
  simp only [go_sem, seval]
  refine VCl.sub [(1008, some (.box [.d (.sl (List.map iD v26)), .d (.int .i64 0)]))] [] rfl (by simp only [go_sem, seval, AV.viewXs, AV.viewX, avD]; try simp) (w64) (by simp) (by simp) (by simp) (by simp) (by simp) (by simp) (by simp) (by simp) (by simp) (by simp) ?_
  simp only [go_sem, seval]
  refine hK _ ?_
  clear hK K
  refine Walk.weaken ⟨[(1, .d (.sl (List.map iD v2))), (5, .box 1008 0), (6, .box 6 0)], [(6, some (.box [.arr 1009 0 v27.2.2.length, .arr 1010 0 v27.2.1.length])), (1008, some (.box [.d (.sl (List.map iD v26)), .d (.int .i64 v27.1)])), (1009, some (.arr 3 1 (List.map iD v27.2.2))), (1010, some (.arr 47 3 (List.map Row.D v27.2.1)))]⟩ (by simp <;> omega) (by simp <;> omega) ?_
  refine Walk.seq (Walk.drawn' rfl mixed fun K hK => ?_)
  obtain ⟨v28, h65, hx⟩ := bind_elim hx
  have w66 := ((mk_Tape_Next_ok v26 v27.1 5 _ h65).swap 0 1008)
  simp only [renE, renL, AV.ren, AV.rens, AObj.ren, swp, Option.map_some, reduceIte, Nat.reduceEqDiff] at w66
  simp only [go_sem, seval]
  refine VCl.sub [(1008, some (.box [.d (.sl (List.map iD v26)), .d (.int .i64 v27.1)]))] [] rfl (by simp only [go_sem, seval, AV.viewXs, AV.viewX, avD]; try simp) (w66) (by simp) (by simp) (by simp) (by simp) (by simp) (by simp) (by simp) (by simp) (by simp) (by simp) ?_
  obtain ⟨v29, h67, hx⟩ := bind_elim hx
  have w68 := (((mk_Tape_Sorted_ok v26 v28.2 (v27.2.2.length : Int) _ h67).swap 0 1008).swap 2000 1011)
  simp only [renE, renL, AV.ren, AV.rens, AObj.ren, swp, Option.map_some, reduceIte, Nat.reduceEqDiff] at w68
  simp only [go_sem, seval]
  refine VCl.sub [(1008, some (.box [.d (.sl (List.map iD v26)), .d (.int .i64 v28.2)]))] [] rfl (by simp only [go_sem, seval, AV.viewXs, AV.viewX, avD]; try simp) (w68) (by simp) (by simp) (by simp) (by simp) (by simp) (by simp) (by simp) (by simp) (by simp) (by simp) ?_
  simp only [go_sem, seval]
  refine hK _ _ (by kernel_rfl) (by simp) ?_
  clear hK K
  refine Walk.weaken ⟨[(1, .d (.sl (List.map iD v2))), (5, .box 1008 0), (6, .box 6 0), (7, .box 7 0)], [(6, some (.box [.arr 1009 0 v27.2.2.length, .arr 1010 0 v27.2.1.length])), (7, some (.box [.d (.bool (decide (v28.1 > 0))), .arr 1011 0 v29.2.length, .d (.int .i64 0), .nils])), (1008, some (.box [.d (.sl (List.map iD v26)), .d (.int .i64 v29.1)])), (1009, some (.arr 3 1 (List.map iD v27.2.2))), (1010, some (.arr 47 3 (List.map Row.D v27.2.1))), (1011, some (.arr 3 1 (List.map iD v29.2)))]⟩ (by simp <;> omega) (by simp <;> omega) ?_
  refine Walk.seq (Walk.join (G := List Int × Int) (fun g => ⟨[(5, .box 1008 0), (6, .box 6 0), (7, .box 7 0)], [(6, some (.box [.arr 1009 0 v27.2.2.length, .arr 1010 0 v27.2.1.length])), (7, some (.box [.d (.bool (decide (v28.1 > 0))), .d (.sl (List.map iD g.1)), .d (.int .i64 0), .nils])), (1008, some (.box [.d (.sl (List.map iD v26)), .d (.int .i64 g.2)])), (1009, some (.arr 3 1 (List.map iD v27.2.2))), (1010, some (.arr 47 3 (List.map Row.D v27.2.1)))]⟩) (fun g => law10_AssemblyRepeats_j0 v26 v27 v28 g.1 g.2) hx (fun g hx => ?_) (fun fin72 => ?_))
  · obtain ⟨v31, v32⟩ := g
    unfold law10_AssemblyRepeats_j0 at hx
    try dsimp only at hx ⊢
    refine Walk.seq (Walk.join (G := List Row) (fun g => ⟨[(6, .box 6 0), (7, .box 7 0)], [(6, some (.box [.arr 1009 0 v27.2.2.length, .arr 1010 0 g.length])), (7, some (.box [.d (.bool (decide (v28.1 > 0))), .d (.sl (List.map iD v31)), .d (.int .i64 0), .nils])), (1009, some (.arr 3 1 (List.map iD v27.2.2))), (1010, some (.arr 47 3 (List.map Row.D g)))]⟩) (fun g => law10_AssemblyRepeats_j1 v27 v28 v31 g) hx (fun v43 hx => ?_) (fun fin114 => ?_))
    · unfold law10_AssemblyRepeats_j1 at hx
      try dsimp only at hx ⊢
      refine Walk.seq ?_
      refine Walk.weaken ⟨[(6, .box 6 0), (7, .box 7 0)], [(6, some (.box [.arr 1009 0 v27.2.2.length, .arr 1010 0 v43.length])), (7, some (.box [.d (.bool (decide (v28.1 > 0))), .d (.sl (List.map iD v31)), .d (.int .i64 0), .nils])), (1009, some (.arr 3 1 (List.map iD v27.2.2))), (1010, some (.arr 47 3 (List.map Row.D v43)))]⟩ (by simp <;> omega) (by simp <;> omega) ?_
      refine Walk.freeze 1009 3 1 (List.map iD v27.2.2) [(6, .box 6 0), (7, .box 7 0)] [(6, some (.box [.d (.sl (List.map iD v27.2.2)), .arr 1010 0 v43.length])), (7, some (.box [.d (.bool (decide (v28.1 > 0))), .d (.sl (List.map iD v31)), .d (.int .i64 0), .nils])), (1010, some (.arr 47 3 (List.map Row.D v43)))] (by simp) (by simp) (by simp) ?_
      refine Walk.weaken ⟨[(6, .box 6 0), (7, .box 7 0)], [(6, some (.box [.d (.sl (List.map iD v27.2.2)), .arr 1010 0 v43.length])), (7, some (.box [.d (.bool (decide (v28.1 > 0))), .d (.sl (List.map iD v31)), .d (.int .i64 0), .nils])), (1010, some (.arr 47 3 (List.map Row.D v43)))]⟩ (by simp <;> omega) (by simp <;> omega) ?_
      refine Walk.freeze 1010 47 3 (List.map Row.D v43) [(6, .box 6 0), (7, .box 7 0)] [(6, some (.box [.d (.sl (List.map iD v27.2.2)), .d (.sl (List.map Row.D v43))])), (7, some (.box [.d (.bool (decide (v28.1 > 0))), .d (.sl (List.map iD v31)), .d (.int .i64 0), .nils]))] (by simp) (by simp) (by simp) ?_
      refine Walk.region' rfl fun K hK => ?_
      obtain ⟨v44, h115, hx⟩ := bind_elim hx
      have w116 := (((assembly_Repeat_ok v27.2.2 v43 (decide (v28.1 > 0)) v31 0 [] _ h115).swap 2001 1012).swap 2002 1013)
      simp only [renE, renL, AV.ren, AV.rens, AObj.ren, swp, Option.map_some, reduceIte, Nat.reduceEqDiff] at w116
      simp only [go_sem, seval]
      refine VCl.pure rfl (by simp only [go_sem, seval]; try simp) (w116) (by simp only [go_sem, seval]; try simp) (by simp only [go_sem, seval]; try simp) (by simp only [go_sem, seval]; try simp) (by simp only [go_sem, seval]; try simp) (by simp only [go_sem, seval]; try simp) (by simp only [go_sem, seval]; try simp) ?_
      simp only [go_sem, seval]
      refine hK _ ?_
      clear hK K
      refine Walk.weaken ⟨[(6, .box 6 0), (7, .box 7 0), (9, .box 9 0), (10, .d (.int .i64 v44.1))], [(6, some (.box [.d (.sl (List.map iD v27.2.2)), .d (.sl (List.map Row.D v43))])), (7, some (.box [.d (.bool (decide (v28.1 > 0))), .d (.sl (List.map iD v31)), .d (.int .i64 0), .nils])), (9, some (.box [.arr 1012 0 v44.2.1.length, .arr 1013 0 v44.2.2.length])), (1012, some (.arr 3 1 (List.map iD v44.2.1))), (1013, some (.arr 47 3 (List.map Row.D v44.2.2)))]⟩ (by simp <;> omega) (by simp <;> omega) ?_
      refine Walk.seq (Walk.region' rfl fun K hK => ?_)
      obtain ⟨v45, h117, hx⟩ := bind_elim hx
      have w118 := ((ref10_Repeat_ok v27.2.2 v43 (decide (v28.1 > 0)) v31 0 [] _ h117).swap 2001 1014)
      simp only [renE, renL, AV.ren, AV.rens, AObj.ren, swp, Option.map_some, reduceIte, Nat.reduceEqDiff] at w118
      simp only [go_sem, seval]
      refine VCl.pure rfl (by simp only [go_sem, seval]; try simp) (w118) (by simp only [go_sem, seval]; try simp) (by simp only [go_sem, seval]; try simp) (by simp only [go_sem, seval]; try simp) (by simp only [go_sem, seval]; try simp) (by simp only [go_sem, seval]; try simp) (by simp only [go_sem, seval]; try simp) ?_
      simp only [go_sem, seval]
      refine hK _ ?_
      clear hK K
      refine Walk.weaken ⟨[(9, .box 9 0), (10, .d (.int .i64 v44.1)), (11, .box 11 0), (12, .d (.int .i64 v45.1))], [(9, some (.box [.arr 1012 0 v44.2.1.length, .arr 1013 0 v44.2.2.length])), (11, some (.box [.d (.sl (List.map iD v45.2.1)), .arr 1014 0 v45.2.2.length])), (1012, some (.arr 3 1 (List.map iD v44.2.1))), (1013, some (.arr 47 3 (List.map Row.D v44.2.2))), (1014, some (.arr 47 3 (List.map Row.D v45.2.2)))]⟩ (by simp <;> omega) (by simp <;> omega) ?_
      refine Walk.seq (Walk.region' rfl fun K hK => ?_)
      obtain ⟨v46, h119, hx⟩ := bind_elim hx
      simp only [go_sem, seval]
      refine VCl.lent rfl (by simp only [go_sem, seval]; try simp) (law10_samePrograms_ok v44.2.1 v44.2.2 v45.2.1 v45.2.2 _ h119) (by simp) (by simp) (by simp) (by simp) (by simp) (by simp) (by simp) ?_
      simp only [go_sem, seval]
      refine VGdO hx (fun g120 hx => ?_) (fun g120 hx => ?_)
      · simp only [go_sem, seval, g120]
        refine VGdO hx (fun g121 hx => ?_) (fun g121 hx => ?_)
        · obtain ⟨v47, h122, hx⟩ := bind_elim hx
          simp only [go_sem, seval, g120, g121]
          refine VCl.pure rfl (by simp only [go_sem, seval, g120, g121]; try simp) (law10_awake_ok _ h122) (by simp only [go_sem, seval, g120, g121]; try simp) (by simp only [go_sem, seval, g120, g121]; try simp) (by simp only [go_sem, seval, g120, g121]; try simp) (by simp only [go_sem, seval, g120, g121]; try simp) (by simp only [go_sem, seval, g120, g121]; try simp) (by simp only [go_sem, seval, g120, g121]; try simp) ?_
          simp only [go_sem, seval, g120, g121]
          refine hK _ ?_
          clear hK K
          obtain rfl := Option.some.inj hx
          exact Walk.ret ⟨by simp [g120, g121], by simp [g120, g121]⟩
        simp only [go_sem, seval, g120, g121]
        refine hK _ ?_
        clear hK K
        obtain rfl := Option.some.inj hx
        exact Walk.ret ⟨by simp [g120, g121], by simp [g120, g121]⟩
      simp only [go_sem, seval, g120]
      refine hK _ ?_
      clear hK K
      obtain rfl := Option.some.inj hx
      exact Walk.ret ⟨by simp [g120], by simp [g120]⟩
    refine Walk.seq (Walk.region' rfl fun K hK => ?_)
    obtain ⟨v48, h123, hx⟩ := bind_elim hx
    have w124 := ((mk_Tape_Next_ok v26 v32 2 _ h123).swap 0 1008)
    simp only [renE, renL, AV.ren, AV.rens, AObj.ren, swp, Option.map_some, reduceIte, Nat.reduceEqDiff] at w124
    simp only [go_sem, seval]
    refine VCl.sub [(1008, some (.box [.d (.sl (List.map iD v26)), .d (.int .i64 v32)]))] [] rfl (by simp only [go_sem, seval, AV.viewXs, AV.viewX, avD]; try simp) (w124) (by simp) (by simp) (by simp) (by simp) (by simp) (by simp) (by simp) (by simp) (by simp) (by simp) ?_
    simp only [go_sem, seval]
    refine hK _ ?_
    clear hK K
    refine Walk.weaken ⟨[(5, .box 1008 0), (6, .box 6 0), (7, .box 7 0), (8, .d (.int .i64 (IntKind.i64.wrap (v48.1 * 60))))], [(6, some (.box [.arr 1009 0 v27.2.2.length, .arr 1010 0 v27.2.1.length])), (7, some (.box [.d (.bool (decide (v28.1 > 0))), .d (.sl (List.map iD v31)), .d (.int .i64 0), .nils])), (1008, some (.box [.d (.sl (List.map iD v26)), .d (.int .i64 v48.2)])), (1009, some (.arr 3 1 (List.map iD v27.2.2))), (1010, some (.arr 47 3 (List.map Row.D v27.2.1)))]⟩ (by simp <;> omega) (by simp <;> omega) ?_
    refine Walk.block (Walk.loop ?_)
    refine Walk.weaken ⟨[(5, .box 1008 0), (6, .box 6 0), (7, .box 7 0), (8, .d (.int .i64 ((IntKind.i64.wrap (v48.1 * 60)))))], [(6, some (.box [.arr 1009 0 v27.2.2.length, .arr 1010 0 v27.2.1.length])), (7, some (.box [.d (.bool (decide (v28.1 > 0))), .d (.sl (List.map iD v31)), .d (.int .i64 0), .nils])), (1008, some (.box [.d (.sl (List.map iD v26)), .d (.int .i64 v48.2)])), (1009, some (.arr 3 1 (List.map iD v27.2.2))), (1010, some (.arr 47 3 (List.map Row.D v27.2.1)))]⟩ (by simp <;> omega) (by simp <;> omega) ?_
    refine Walk.iter (σ := Int × List Row × Int) (fun g => ⟨[(5, .box 1008 0), (6, .box 6 0), (7, .box 7 0), (8, .d (.int .i64 g.1))], [(6, some (.box [.arr 1009 0 v27.2.2.length, .arr 1010 0 g.2.1.length])), (7, some (.box [.d (.bool (decide (v28.1 > 0))), .d (.sl (List.map iD v31)), .d (.int .i64 0), .nils])), (1008, some (.box [.d (.sl (List.map iD v26)), .d (.int .i64 g.2.2)])), (1009, some (.arr 3 1 (List.map iD v27.2.2))), (1010, some (.arr 47 3 (List.map Row.D g.2.1)))]⟩) (fun g : Int × List Row × Int => law10_AssemblyRepeats_l2 v26 v27 v28 v31 g.1 g.2.1 g.2.2) _ (fun g y164 hx ih147 hr148 => ?_) (IntKind.i64.wrap (v48.1 * 60), v27.2.1, v48.2) hx
    obtain ⟨v51, v52, v53⟩ := g
    unfold law10_AssemblyRepeats_l2 at hx
    try dsimp only at hx ⊢
    refine Walk.seq (Walk.seq (Walk.region' rfl fun K hK => ?_))
    simp only [go_sem, seval]
    refine VGdO hx (fun g153 hx => ?_) (fun g153 hx => ?_)
    · obtain ⟨v57, h154, hx⟩ := bind_elim hx
      have w155 := ((mk_Tape_One_ok v26 v53 3 _ h154).swap 0 1008)
      simp only [renE, renL, AV.ren, AV.rens, AObj.ren, swp, Option.map_some, reduceIte, Nat.reduceEqDiff] at w155
      simp only [go_sem, seval, g153]
      refine VCl.sub [(1008, some (.box [.d (.sl (List.map iD v26)), .d (.int .i64 v53)]))] [] rfl (by simp only [go_sem, seval, AV.viewXs, AV.viewX, avD, g153]; try simp) (w155) (by simp [g153]) (by simp [g153]) (by simp [g153]) (by simp [g153]) (by simp [g153]) (by simp [g153]) (by simp [g153]) (by simp [g153]) (by simp [g153]) (by simp [g153]) ?_
      simp only [go_sem, seval, g153]
      refine hK _ ?_
      clear hK K
      refine Walk.weaken ⟨[(5, .box 1008 0), (6, .box 6 0), (7, .box 7 0), (8, .d (.int .i64 v51)), (38, .d (.bool v57.1))], [(6, some (.box [.arr 1009 0 v27.2.2.length, .arr 1010 0 v52.length])), (7, some (.box [.d (.bool (decide (v28.1 > 0))), .d (.sl (List.map iD v31)), .d (.int .i64 0), .nils])), (1008, some (.box [.d (.sl (List.map iD v26)), .d (.int .i64 v57.2)])), (1009, some (.arr 3 1 (List.map iD v27.2.2))), (1010, some (.arr 47 3 (List.map Row.D v52)))]⟩ (by simp [g153] <;> omega) (by simp [g153] <;> omega) ?_
      refine Walk.condO rfl hx (fun c157 hx => ?_) (fun c157 hx => ?_)
      · refine Walk.skip (Walk.seq (Walk.block (Walk.drawn' rfl mixed fun K hK => ?_)))
        obtain ⟨k158, hx⟩ := chk_elim hx
        obtain ⟨k159, hx⟩ := chk_elim hx
        simp only [go_sem, seval, g153, c157, k158, k159]
        repeat refine And.intro (by first | omega | (simp; done) | (simp; omega)) ?_
        refine hK _ _ (by kernel_rfl) (by simp [g153, c157, k158, k159]) ?_
        clear hK K
        refine Walk.weaken ⟨[(5, .box 1008 0), (6, .box 6 0), (7, .box 7 0), (8, .d (.int .i64 v51))], [(6, some (.box [.arr 1009 0 v27.2.2.length, .arr 1010 0 (((v52 ++ [(Row.mk ((List.replicate v27.2.2.length (0 : Int))) 0 0)])).length)])), (7, some (.box [.d (.bool (decide (v28.1 > 0))), .d (.sl (List.map iD v31)), .d (.int .i64 0), .nils])), (1008, some (.box [.d (.sl (List.map iD v26)), .d (.int .i64 v57.2)])), (1009, some (.arr 3 1 (List.map iD v27.2.2))), (1010, some (.arr 47 3 (List.map Row.D ((v52 ++ [(Row.mk ((List.replicate v27.2.2.length (0 : Int))) 0 0)])))))]⟩ (by simp [g153, c157, k158, k159] <;> omega) (by simp [g153, c157, k158, k159] <;> omega) ?_
        refine Walk.inBlock (Walk.region' rfl fun K hK => ?_)
        simp only [go_sem, seval, g153, c157, k158, k159]
        refine hK _ ?_
        clear hK K
        exact Walk.weaken _ (by simp [g153, c157, k158, k159] <;> omega) (by simp [g153, c157, k158, k159] <;> omega) (ih147 _ (cont_elim hx))
      refine Walk.exit rfl ?_
      obtain ⟨z160, e161, hx⟩ := exit_elim hx
      rw [hr148 z160 e161] at hx
      exact Walk.weaken _ (by simp [g153, c157] <;> omega) (by simp [g153, c157] <;> omega) (fin114 v52 hx)
    simp only [go_sem, seval, g153]
    refine hK _ ?_
    clear hK K
    refine Walk.condF rfl (Walk.exit rfl ?_)
    obtain ⟨z162, e163, hx⟩ := exit_elim hx
    rw [hr148 z162 e163] at hx
    exact Walk.weaken _ (by simp [g153] <;> omega) (by simp [g153] <;> omega) (fin114 v52 hx)
  refine Walk.seq (Walk.region' rfl fun K hK => ?_)
  obtain ⟨v58, h165, hx⟩ := bind_elim hx
  have w166 := ((mk_Tape_One_ok v26 v29.1 6 _ h165).swap 0 1008)
  simp only [renE, renL, AV.ren, AV.rens, AObj.ren, swp, Option.map_some, reduceIte, Nat.reduceEqDiff] at w166
  simp only [go_sem, seval]
  refine VCl.sub [(1008, some (.box [.d (.sl (List.map iD v26)), .d (.int .i64 v29.1)]))] [] rfl (by simp only [go_sem, seval, AV.viewXs, AV.viewX, avD]; try simp) (w166) (by simp) (by simp) (by simp) (by simp) (by simp) (by simp) (by simp) (by simp) (by simp) (by simp) ?_
  simp only [go_sem, seval]
  refine hK _ ?_
  clear hK K
  refine Walk.weaken ⟨[(1, .d (.sl (List.map iD v2))), (5, .box 1008 0), (6, .box 6 0), (7, .box 7 0), (27, .d (.bool v58.1))], [(6, some (.box [.arr 1009 0 v27.2.2.length, .arr 1010 0 v27.2.1.length])), (7, some (.box [.d (.bool (decide (v28.1 > 0))), .arr 1011 0 v29.2.length, .d (.int .i64 0), .nils])), (1008, some (.box [.d (.sl (List.map iD v26)), .d (.int .i64 v58.2)])), (1009, some (.arr 3 1 (List.map iD v27.2.2))), (1010, some (.arr 47 3 (List.map Row.D v27.2.1))), (1011, some (.arr 3 1 (List.map iD v29.2)))]⟩ (by simp <;> omega) (by simp <;> omega) ?_
  refine Walk.condO rfl hx (fun c167 hx => ?_) (fun c167 hx => ?_)
  · refine Walk.region' rfl fun K hK => ?_
    simp only [go_sem, seval, c167]
    refine hK _ ?_
    clear hK K
    exact Walk.weaken _ (by simp [c167] <;> omega) (by simp [c167] <;> omega) (fin72 (v2, v58.2) hx)
  refine Walk.skip ?_
  refine Walk.weaken ⟨[(5, .box 1008 0), (6, .box 6 0), (7, .box 7 0)], [(6, some (.box [.arr 1009 0 v27.2.2.length, .arr 1010 0 v27.2.1.length])), (7, some (.box [.d (.bool (decide (v28.1 > 0))), .arr 1011 0 v29.2.length, .d (.int .i64 0), .nils])), (1008, some (.box [.d (.sl (List.map iD v26)), .d (.int .i64 v58.2)])), (1009, some (.arr 3 1 (List.map iD v27.2.2))), (1010, some (.arr 47 3 (List.map Row.D v27.2.1))), (1011, some (.arr 3 1 (List.map iD v29.2)))]⟩ (by simp [c167] <;> omega) (by simp [c167] <;> omega) ?_
  refine Walk.freeze 1011 3 1 (List.map iD v29.2) [(5, .box 1008 0), (6, .box 6 0), (7, .box 7 0)] [(6, some (.box [.arr 1009 0 v27.2.2.length, .arr 1010 0 v27.2.1.length])), (7, some (.box [.d (.bool (decide (v28.1 > 0))), .d (.sl (List.map iD v29.2)), .d (.int .i64 0), .nils])), (1008, some (.box [.d (.sl (List.map iD v26)), .d (.int .i64 v58.2)])), (1009, some (.arr 3 1 (List.map iD v27.2.2))), (1010, some (.arr 47 3 (List.map Row.D v27.2.1)))] (by simp) (by simp) (by simp) ?_
  exact Walk.weaken _ (by simp [c167] <;> omega) (by simp [c167] <;> omega) (fin72 (v29.2, v58.2) hx)
end Go.AX

