import Derived.Test.YtebcedhhcpibpaaE1
set_option linter.unusedVariables false
set_option linter.unusedSimpArgs false
set_option maxRecDepth 20000
set_option maxHeartbeats 4000000
namespace Go.AX
open Go.Proofs
attribute [local simp] spl_len take_snoc take_cons_drop cons_rep cons_tail iA bA take_set_len idsL_rep idsL_iA idsL_bA idsL_sA idsL_set_mem idsL_sub sA_def List.map_replicate frVs_setS frVs_self frV_arr take_map_len subE subH eget hget upE upV upH upO_refl upO_box upVs freshE freshH freshO AV.ids AV.idsL ids_box ids_arr ids_pre idsL_room frE frV_refl frV_arr frH frO_refl frO_box frVs newOk evalA AV.viewXs AV.viewX AV.viewXP AV.viewXPs AV.viewPs AV.viewP AV.flat AV.flatL D.flat arrsOnly flatObjs newNames subOf closedIn allSome dstOk newOrOld avD avDp zv_i64 zv_u8 zv_bool zv_nils zv_nilp zv_str retAV aLoad cut TI.isAgg nlE nlH nlO_refl nlO_box nlVs nlV_refl nlV_nil iD uD bD tD lD List.map_set ti1 ti2 ti3 ti4 ti5 ti6 ti7 ti8 ti9 ti10 ti11 ti12 ti13 ti14 ti15 ti16 ti17 ti18 ti19 ti21 ti22 ti23 ti24 ti25 ti26 ti27 ti28 ti29 ti30 ti32 ti33 ti34 ti35 ti36 ti37 ti38 ti40 ti41 ti42 ti43 ti44 ti45 ti46 ti47 ti48 ti49 ti50 ti51 ti52 ti54 ti55 ti56 ti57 ti58 ti59 ti61 ti62 ti63 ti64 ti65 ti66 ti67 ti68 ti69 ti70 ti72 ti73 ti74 ti75 ti76 ti77 ti78 ti79 ti80 ti81 ti82 ti83 ti84 ti85 ti86 ti87 ti89 ti91 ti92 ti93 ti94 ti95 ti96 ti97 ti98 ti99 ti100 ti101 ti103 ti105 ti106 ti107 ti108 ti109 ti110 ti111 ti112 ti113 ti114 ti115 ti117 ti118 ti120 ti121 ti122 ti123 ti124 ti125 ti126 ti127 ti128 ti129 ti130 ti131 ti132 ti133 ti134 ti135 ti136 ti137 ti138 ti139 ti140 Row.D Node.D Part.D TItem.D Ref.D
attribute [local go_sem] V1_none V1_some V_nil V_move V_assign V_pick V_bin V_un V_extract V_makeFunc V_convert V_nilCheck V_fieldAddr V_field V_load V_store V_indexAddr V_index V_slice V_slice0 V_alloc V_box V_build V_buildSlice V_makeSlice V_len V_min V_max V_append V_copy V_call V_guard VGs_some VG_tt VG_ff VG_tf VG_ft VG_u gslot ok fail po so aNew dstOk freshU addLog_none' addLog_some' St.step putL evalA eget hget argE freshE freshO freshH AV.ids AV.idsL AV.ok1 AV.cells ids_box ids_arr liveBox liveArr isArr isObj isBoxB aPick isNilC aNilEq aBin aUn aExtract aMakeFunc aConvert aNilCheck aFieldAddr aField cut aLen aIndexAddr aMin aMax aIndex bnd isInt aSlice aSlice0 aLoad aAlloc aBox aStore splice aMake aMakeBox aCopy cellsOf cellsOfP updIds newIds zv_i64 zv_u8 zv_bool zv_nils zv_nilp cond_bool cond_int TI.isAgg TK.isSl TK.el okL avDps avDp avD List.map_cons List.map_nil List.append_nil List.nil_append List.cons_append List.length_cons List.length_nil List.take_succ_cons List.take_zero List.drop_succ_cons List.drop_zero List.take_nil List.drop_nil List.headD_cons List.getD_cons_zero List.getD_cons_succ List.mem_cons List.not_mem_nil List.getElem?_cons_zero List.getElem?_cons_succ List.toList_toArray Option.getD_some Option.getD_none Option.bind_some Option.bind_none Option.map_some Option.map_none Option.getD Option.toList Nat.zero_add Nat.add_zero Nat.zero_le Nat.le_refl if_true if_false ite_self true_and and_true false_and and_false true_or or_true false_or or_false not_true_eq_false not_false_eq_true ne_eq cond_true cond_false Bool.true_eq_false Bool.false_eq_true forall_const decide_true decide_false implies_true true_implies and_self or_self Nat.succ_ne_zero Int.toNat_natCast Int.natCast_nonneg List.length_map decide_eq_true_eq AV.views AV.view AV.viewPs AV.viewP arrsOnly newNames List.length_append List.append_assoc Bool.not_true Bool.not_false AV.ok2 aBuild fillR fillP aBuildSlice dense elP aAppend esOf esOfP List.forall_mem_cons forall_eq_or_imp forall_eq zD zDp map_take' map_drop' iD uD bD tD lD iD_len uD_len bD_len tD_len lD_len LB Int.cast_ofNat_Int Int.natCast_zero Int.natCast_one head_len all_len List.head?_cons List.head?_nil Bool.not_not eq_self List.take_length zv_str aConv byteOf isByte map_bcell bytes_all str_map cellsEq cellsP AV.kd Bool.and_true Bool.true_and Bool.and_false Bool.false_and spl_map spl_len mkbox_i mkbox_b flat_iD dataL_iA dataL_bA zv_u64 flat_iD' flat_len dataL_tA dataL_ttA spl_mt spl_mtt mkbox_s splice_one take_cons_drop cons_rep cons_tail hd_set hd_set0 List.length_replicate iA bA sA_def List.set_set List.length_set idsL_iA idsL_bA idsL_sA idsL_setE idsL_rep List.append_eq Nat.mul_one ids_pre idsL_room appBox_full appBox_room pre_iA one_iD List.flatten_cons List.flatten_nil ti1 ti2 ti3 ti4 ti5 ti6 ti7 ti8 ti9 ti10 ti11 ti12 ti13 ti14 ti15 ti16 ti17 ti18 ti19 ti21 ti22 ti23 ti24 ti25 ti26 ti27 ti28 ti29 ti30 ti32 ti33 ti34 ti35 ti36 ti37 ti38 ti40 ti41 ti42 ti43 ti44 ti45 ti46 ti47 ti48 ti49 ti50 ti51 ti52 ti54 ti55 ti56 ti57 ti58 ti59 ti61 ti62 ti63 ti64 ti65 ti66 ti67 ti68 ti69 ti70 ti72 ti73 ti74 ti75 ti76 ti77 ti78 ti79 ti80 ti81 ti82 ti83 ti84 ti85 ti86 ti87 ti89 ti91 ti92 ti93 ti94 ti95 ti96 ti97 ti98 ti99 ti100 ti101 ti103 ti105 ti106 ti107 ti108 ti109 ti110 ti111 ti112 ti113 ti114 ti115 ti117 ti118 ti120 ti121 ti122 ti123 ti124 ti125 ti126 ti127 ti128 ti129 ti130 ti131 ti132 ti133 ti134 ti135 ti136 ti137 ti138 ti139 ti140 Row.D Node.D Part.D TItem.D Ref.D Row.D_len Node.D_len Part.D_len TItem.D_len Ref.D_len zs_ zs_48_49_50_51_52_53_54_55_56_57_48_49_50_51_52_53_54_55_56_57_48_49_50_51_52_53_54_55_56_57_48_49_50_51_52_53_54_55_56_57_120 zs_113 zs_116_97_98_9 eqf74_00
noncomputable def blueprint_in_1 (v1 : Int) (v2 : Int) : Option (Bool) :=
  bif decide (v1 < 0) then (some (true : Bool)) else (some (decide (v1 > v2) : Bool))
theorem blueprint_in_1_ok (v1 : Int) (v2 : Int) (r : Bool) (hx : blueprint_in_1 v1 v2 = some r) :
    ACalls Try.prog 80 [.d (.int .i64 v1), .box 0 0] [(0, some (.box [.d (.int .i64 v2)]))] (.d (.bool r)) [(0, some (.box [.d (.int .i64 v2)]))] := by
  refine ACalls.of_sem (n := 11) 1 [3] (fn := Try.f80) Try.func80 rfl rfl (.one rfl) rfl (by simp) (by intro i; simp only [hget]; (repeat' split) <;> simp <;> omega) ?_
  unfold blueprint_in_1 at hx
  refine Walk.seq (Walk.region' rfl fun K hK => ?_)
  simp only [go_sem, seval]
  refine hK _ ?_
  clear hK K
  refine Walk.seq (Walk.region' rfl fun K hK => ?_)
  simp only [go_sem, seval]
  refine VGdO hx (fun g2 hx => ?_) (fun g2 hx => ?_)
  · simp only [go_sem, seval, g2]
    refine hK _ ?_
    clear hK K
    obtain rfl := Option.some.inj hx
    exact Walk.ret ⟨by simp [g2], by simp [g2]⟩
  simp only [go_sem, seval, g2]
  refine hK _ ?_
  clear hK K
  obtain rfl := Option.some.inj hx
  exact Walk.ret ⟨by simp [g2], by simp [g2]⟩
noncomputable def slices_IndexFunc_int__in_1_l0 (v1 : List Int) (v2 : Int) (v13 : Int) : Option ((Int) ⊕ (Int)) :=
  bif decide (v13 < (v1.length : Int)) then ((rd v1 v13).bind fun v16 => (blueprint_in_1 v16 v2).bind fun v17 => bif v17 then (exitO (some (v13 : Int))) else (contO (IntKind.i64.wrap (v13 + 1) : Int))) else (exitO (some (-1 : Int)))
noncomputable def slices_IndexFunc_int__in_1 (v1 : List Int) (v2 : Int) : Option (Int) :=
  iter (fun g : Int => slices_IndexFunc_int__in_1_l0 v1 v2 g) 0
theorem slices_IndexFunc_int__in_1_ok (v1 : List Int) (v2 : Int) (r : Int) (hx : slices_IndexFunc_int__in_1 v1 v2 = some r) :
    ACalls Try.prog 89 [.d (.sl (List.map iD v1)), .fn 80 [.box 0 0]] [(0, some (.box [.d (.int .i64 v2)]))] (.d (.int .i64 r)) [(0, some (.box [.d (.int .i64 v2)]))] := by
  refine ACalls.of_sem (n := 19) 1 [4] (fn := Try.f89) Try.func89 rfl rfl (.one rfl) rfl (by simp) (by intro i; simp only [hget]; (repeat' split) <;> simp <;> omega) ?_
  unfold slices_IndexFunc_int__in_1 at hx
  refine Walk.seq (Walk.region' rfl fun K hK => ?_)
  simp only [go_sem, seval]
  refine hK _ ?_
  clear hK K
  refine Walk.seq (Walk.seq (Walk.region' rfl fun K hK => ?_))
  simp only [go_sem, seval]
  refine hK _ ?_
  clear hK K
  refine Walk.block (Walk.loop ?_)
  refine Walk.weaken ⟨[(0, .d (.sl (List.map iD v1))), (1, .fn 80 [.box 0 0]), (7, .d (.int .i64 (v1.length : Int))), (8, .d (.int .i64 0))], [(0, some (.box [.d (.int .i64 v2)]))]⟩ (by simp <;> omega) (by simp <;> omega) ?_
  refine Walk.iter (σ := Int) (fun g => ⟨[(0, .d (.sl (List.map iD v1))), (1, .fn 80 [.box 0 0]), (7, .d (.int .i64 (v1.length : Int))), (8, .d (.int .i64 g))], [(0, some (.box [.d (.int .i64 v2)]))]⟩) (fun g : Int => slices_IndexFunc_int__in_1_l0 v1 v2 g) _ (fun v13 y59 hx ih45 hr46 => ?_) 0 hx
  unfold slices_IndexFunc_int__in_1_l0 at hx
  try dsimp only at hx ⊢
  refine Walk.seq (Walk.region' rfl fun K hK => ?_)
  simp only [go_sem, seval]
  refine hK _ ?_
  clear hK K
  refine Walk.seq (Walk.condO rfl hx (fun c48 hx => ?_) (fun c48 hx => ?_))
  · refine Walk.skip (Walk.seq (Walk.block (Walk.seq (Walk.region' rfl fun K hK => ?_))))
    simp only [go_sem, seval, c48]
    refine hK _ ?_
    clear hK K
    refine Walk.seq (Walk.region' rfl fun K hK => ?_)
    obtain ⟨v16, r49, a50, b51, c52, hx⟩ := rd_elim hx
    obtain ⟨v17, h53, hx⟩ := bind_elim hx
    simp only [go_sem, seval, c48, a50, b51, c52]
    repeat refine And.intro (by first | omega | (simp; done) | (simp; omega)) ?_
    refine VCl.sub [(0, some (.box [.d (.int .i64 v2)]))] [] rfl (by simp only [go_sem, seval, AV.viewXs, AV.viewX, avD, c48, a50, b51, c52]; try simp) (blueprint_in_1_ok v16 v2 _ h53) (by simp [c48, a50, b51, c52]) (by simp [c48, a50, b51, c52]) (by simp [c48, a50, b51, c52]) (by simp [c48, a50, b51, c52]) (by simp [c48, a50, b51, c52]) (by simp [c48, a50, b51, c52]) (by simp [c48, a50, b51, c52]) (by simp [c48, a50, b51, c52]) (by simp [c48, a50, b51, c52]) (by simp [c48, a50, b51, c52]) ?_
    simp only [go_sem, seval, c48, a50, b51, c52]
    refine hK _ ?_
    clear hK K
    refine Walk.weaken ⟨[(0, .d (.sl (List.map iD v1))), (1, .fn 80 [.box 0 0]), (5, .d (.int .i64 v13)), (7, .d (.int .i64 (v1.length : Int))), (8, .d (.int .i64 v13)), (16, .d (.bool v17))], [(0, some (.box [.d (.int .i64 v2)]))]⟩ (by simp [c48, a50, b51, c52] <;> omega) (by simp [c48, a50, b51, c52] <;> omega) ?_
    refine Walk.condO rfl hx (fun c54 hx => ?_) (fun c54 hx => ?_)
    · refine Walk.seq (Walk.region' rfl fun K hK => ?_)
      simp only [go_sem, seval, c48, a50, b51, c52, c54]
      refine hK _ ?_
      clear hK K
      obtain ⟨z55, e56, hx⟩ := exit_elim hx
      rw [hr46 z55 e56] at hx
      obtain rfl := Option.some.inj hx
      exact Walk.ret ⟨by simp [c48, a50, b51, c52, c54], by simp [c48, a50, b51, c52, c54]⟩
    refine Walk.skip (Walk.inBlock (Walk.region' rfl fun K hK => ?_))
    simp only [go_sem, seval, c48, a50, b51, c52, c54]
    refine hK _ ?_
    clear hK K
    exact Walk.weaken _ (by simp [c48, a50, b51, c52, c54] <;> omega) (by simp [c48, a50, b51, c52, c54] <;> omega) (ih45 _ (cont_elim hx))
  refine Walk.exit rfl ?_
  obtain ⟨z57, e58, hx⟩ := exit_elim hx
  rw [hr46 z57 e58] at hx
  refine Walk.seq (Walk.region' rfl fun K hK => ?_)
  simp only [go_sem, seval, c48]
  refine hK _ ?_
  clear hK K
  obtain rfl := Option.some.inj hx
  exact Walk.ret ⟨by simp [c48], by simp [c48]⟩
noncomputable def slices_ContainsFunc_int__in_1 (v1 : List Int) (v2 : Int) : Option (Bool) :=
  (slices_IndexFunc_int__in_1 v1 v2).bind fun v5 => some (decide (v5 ≥ 0) : Bool)
theorem slices_ContainsFunc_int__in_1_ok (v1 : List Int) (v2 : Int) (r : Bool) (hx : slices_ContainsFunc_int__in_1 v1 v2 = some r) :
    ACalls Try.prog 77 [.d (.sl (List.map iD v1)), .fn 80 [.box 0 0]] [(0, some (.box [.d (.int .i64 v2)]))] (.d (.bool r)) [(0, some (.box [.d (.int .i64 v2)]))] := by
  refine ACalls.of_sem (n := 9) 1 [4] (fn := Try.f77) Try.func77 rfl rfl (.one rfl) rfl (by simp) (by intro i; simp only [hget]; (repeat' split) <;> simp <;> omega) ?_
  unfold slices_ContainsFunc_int__in_1 at hx
  refine Walk.seq (Walk.region' rfl fun K hK => ?_)
  simp only [go_sem, seval]
  refine hK _ ?_
  clear hK K
  refine Walk.seq (Walk.region' rfl fun K hK => ?_)
  obtain ⟨v5, h2, hx⟩ := bind_elim hx
  simp only [go_sem, seval]
  refine VCl.sub [(0, some (.box [.d (.int .i64 v2)]))] [] rfl (by simp only [go_sem, seval, AV.viewXs, AV.viewX, avD]; try simp) (slices_IndexFunc_int__in_1_ok v1 v2 _ h2) (by simp) (by simp) (by simp) (by simp) (by simp) (by simp) (by simp) (by simp) (by simp) (by simp) ?_
  simp only [go_sem, seval]
  refine hK _ ?_
  clear hK K
  refine Walk.weaken ⟨[(4, .d (.bool (decide (v5 ≥ 0))))], [(0, some (.box [.d (.int .i64 v2)]))]⟩ (by simp <;> omega) (by simp <;> omega) ?_
  obtain rfl := Option.some.inj hx
  exact Walk.ret ⟨by simp, by simp⟩
noncomputable def blueprint_in (v1 : Int) (v2 : List Int) : Option (Bool) :=
  (slices_ContainsFunc_int__in_1 v2 v1).bind fun v5 => some (!v5 : Bool)
theorem blueprint_in_ok (v1 : Int) (v2 : List Int) (r : Bool) (hx : blueprint_in v1 v2 = some r) :
    ACalls Try.prog 62 [.d (.int .i64 v1), .d (.sl (List.map iD v2))] [] (.d (.bool r)) [] := by
  refine ACalls.of_sem (n := 9) 0 [4] (fn := Try.f62) Try.func62 rfl rfl (.one rfl) rfl (by simp) (by intro i; simp only [hget]; (repeat' split) <;> simp <;> omega) ?_
  unfold blueprint_in at hx
  refine Walk.seq (Walk.region' rfl fun K hK => ?_)
  simp only [go_sem, seval]
  refine hK _ ?_
  clear hK K
  refine Walk.seq (Walk.region' rfl fun K hK => ?_)
  obtain ⟨v5, h3, hx⟩ := bind_elim hx
  have w4 := ((slices_ContainsFunc_int__in_1_ok v2 v1 _ h3).swap 0 2)
  simp only [renE, renL, AV.ren, AV.rens, AObj.ren, swp, Option.map_some, reduceIte, Nat.reduceEqDiff] at w4
  simp only [go_sem, seval]
  refine VCl.sub [(2, some (.box [.d (.int .i64 v1)]))] [] rfl (by simp only [go_sem, seval, AV.viewXs, AV.viewX, avD]; try simp) (w4) (by simp) (by simp) (by simp) (by simp) (by simp) (by simp) (by simp) (by simp) (by simp) (by simp) ?_
  simp only [go_sem, seval]
  refine hK _ ?_
  clear hK K
  refine Walk.weaken ⟨[(4, .d (.bool (!v5)))], []⟩ (by simp <;> omega) (by simp <;> omega) ?_
  obtain rfl := Option.some.inj hx
  exact Walk.ret ⟨by simp, by simp⟩
noncomputable def blueprint_small_1 (v1 : Int) : Option (Bool) :=
  bif decide (v1 < (-10000)) then (some (true : Bool)) else (some (decide (v1 > 10000) : Bool))
theorem blueprint_small_1_ok (v1 : Int) (r : Bool) (hx : blueprint_small_1 v1 = some r) :
    ACalls Try.prog 81 [.d (.int .i64 v1)] [] (.d (.bool r)) [] := by
  refine ACalls.of_sem (n := 9) 0 [2] (fn := Try.f81) Try.func81 rfl rfl (.one rfl) rfl (by simp) (by intro i; simp only [hget]; (repeat' split) <;> simp <;> omega) ?_
  unfold blueprint_small_1 at hx
  refine Walk.seq (Walk.region' rfl fun K hK => ?_)
  simp only [go_sem, seval]
  refine hK _ ?_
  clear hK K
  refine Walk.seq (Walk.region' rfl fun K hK => ?_)
  simp only [go_sem, seval]
  refine VGdO hx (fun g2 hx => ?_) (fun g2 hx => ?_)
  · simp only [go_sem, seval, g2]
    refine hK _ ?_
    clear hK K
    obtain rfl := Option.some.inj hx
    exact Walk.ret ⟨by simp [g2], by simp [g2]⟩
  simp only [go_sem, seval, g2]
  refine hK _ ?_
  clear hK K
  obtain rfl := Option.some.inj hx
  exact Walk.ret ⟨by simp [g2], by simp [g2]⟩
noncomputable def slices_IndexFunc_int__small_1_l0 (v1 : List Int) (v12 : Int) : Option ((Int) ⊕ (Int)) :=
  bif decide (v12 < (v1.length : Int)) then ((rd v1 v12).bind fun v15 => (blueprint_small_1 v15).bind fun v16 => bif v16 then (exitO (some (v12 : Int))) else (contO (IntKind.i64.wrap (v12 + 1) : Int))) else (exitO (some (-1 : Int)))
noncomputable def slices_IndexFunc_int__small_1 (v1 : List Int) : Option (Int) :=
  iter (fun g : Int => slices_IndexFunc_int__small_1_l0 v1 g) 0
theorem slices_IndexFunc_int__small_1_ok (v1 : List Int) (r : Int) (hx : slices_IndexFunc_int__small_1 v1 = some r) :
    ACalls Try.prog 89 [.d (.sl (List.map iD v1)), .fn 81 []] [] (.d (.int .i64 r)) [] := by
  refine ACalls.of_sem (n := 19) 0 [4] (fn := Try.f89) Try.func89 rfl rfl (.one rfl) rfl (by simp) (by intro i; simp only [hget]; (repeat' split) <;> simp <;> omega) ?_
  unfold slices_IndexFunc_int__small_1 at hx
  refine Walk.seq (Walk.region' rfl fun K hK => ?_)
  simp only [go_sem, seval]
  refine hK _ ?_
  clear hK K
  refine Walk.seq (Walk.seq (Walk.region' rfl fun K hK => ?_))
  simp only [go_sem, seval]
  refine hK _ ?_
  clear hK K
  refine Walk.block (Walk.loop ?_)
  refine Walk.weaken ⟨[(0, .d (.sl (List.map iD v1))), (1, .fn 81 []), (7, .d (.int .i64 (v1.length : Int))), (8, .d (.int .i64 0))], []⟩ (by simp <;> omega) (by simp <;> omega) ?_
  refine Walk.iter (σ := Int) (fun g => ⟨[(0, .d (.sl (List.map iD v1))), (1, .fn 81 []), (7, .d (.int .i64 (v1.length : Int))), (8, .d (.int .i64 g))], []⟩) (fun g : Int => slices_IndexFunc_int__small_1_l0 v1 g) _ (fun v12 y59 hx ih45 hr46 => ?_) 0 hx
  unfold slices_IndexFunc_int__small_1_l0 at hx
  try dsimp only at hx ⊢
  refine Walk.seq (Walk.region' rfl fun K hK => ?_)
  simp only [go_sem, seval]
  refine hK _ ?_
  clear hK K
  refine Walk.seq (Walk.condO rfl hx (fun c48 hx => ?_) (fun c48 hx => ?_))
  · refine Walk.skip (Walk.seq (Walk.block (Walk.seq (Walk.region' rfl fun K hK => ?_))))
    simp only [go_sem, seval, c48]
    refine hK _ ?_
    clear hK K
    refine Walk.seq (Walk.region' rfl fun K hK => ?_)
    obtain ⟨v15, r49, a50, b51, c52, hx⟩ := rd_elim hx
    obtain ⟨v16, h53, hx⟩ := bind_elim hx
    simp only [go_sem, seval, c48, a50, b51, c52]
    repeat refine And.intro (by first | omega | (simp; done) | (simp; omega)) ?_
    refine VCl.pure rfl (by simp only [go_sem, seval, c48, a50, b51, c52]; try simp) (blueprint_small_1_ok v15 _ h53) (by simp only [go_sem, seval, c48, a50, b51, c52]; try simp) (by simp only [go_sem, seval, c48, a50, b51, c52]; try simp) (by simp only [go_sem, seval, c48, a50, b51, c52]; try simp) (by simp only [go_sem, seval, c48, a50, b51, c52]; try simp) (by simp only [go_sem, seval, c48, a50, b51, c52]; try simp) (by simp only [go_sem, seval, c48, a50, b51, c52]; try simp) ?_
    simp only [go_sem, seval, c48, a50, b51, c52]
    refine hK _ ?_
    clear hK K
    refine Walk.condO rfl hx (fun c54 hx => ?_) (fun c54 hx => ?_)
    · refine Walk.seq (Walk.region' rfl fun K hK => ?_)
      simp only [go_sem, seval, c48, a50, b51, c52, c54]
      refine hK _ ?_
      clear hK K
      obtain ⟨z55, e56, hx⟩ := exit_elim hx
      rw [hr46 z55 e56] at hx
      obtain rfl := Option.some.inj hx
      exact Walk.ret ⟨by simp [c48, a50, b51, c52, c54], by simp [c48, a50, b51, c52, c54]⟩
    refine Walk.skip (Walk.inBlock (Walk.region' rfl fun K hK => ?_))
    simp only [go_sem, seval, c48, a50, b51, c52, c54]
    refine hK _ ?_
    clear hK K
    exact Walk.weaken _ (by simp [c48, a50, b51, c52, c54] <;> omega) (by simp [c48, a50, b51, c52, c54] <;> omega) (ih45 _ (cont_elim hx))
  refine Walk.exit rfl ?_
  obtain ⟨z57, e58, hx⟩ := exit_elim hx
  rw [hr46 z57 e58] at hx
  refine Walk.seq (Walk.region' rfl fun K hK => ?_)
  simp only [go_sem, seval, c48]
  refine hK _ ?_
  clear hK K
  obtain rfl := Option.some.inj hx
  exact Walk.ret ⟨by simp [c48], by simp [c48]⟩
noncomputable def slices_ContainsFunc_int__small_1 (v1 : List Int) : Option (Bool) :=
  (slices_IndexFunc_int__small_1 v1).bind fun v4 => some (decide (v4 ≥ 0) : Bool)
theorem slices_ContainsFunc_int__small_1_ok (v1 : List Int) (r : Bool) (hx : slices_ContainsFunc_int__small_1 v1 = some r) :
    ACalls Try.prog 77 [.d (.sl (List.map iD v1)), .fn 81 []] [] (.d (.bool r)) [] := by
  refine ACalls.of_sem (n := 9) 0 [4] (fn := Try.f77) Try.func77 rfl rfl (.one rfl) rfl (by simp) (by intro i; simp only [hget]; (repeat' split) <;> simp <;> omega) ?_
  unfold slices_ContainsFunc_int__small_1 at hx
  refine Walk.seq (Walk.region' rfl fun K hK => ?_)
  simp only [go_sem, seval]
  refine hK _ ?_
  clear hK K
  refine Walk.seq (Walk.region' rfl fun K hK => ?_)
  obtain ⟨v4, h2, hx⟩ := bind_elim hx
  simp only [go_sem, seval]
  refine VCl.pure rfl (by simp only [go_sem, seval]; try simp) (slices_IndexFunc_int__small_1_ok v1 _ h2) (by simp only [go_sem, seval]; try simp) (by simp only [go_sem, seval]; try simp) (by simp only [go_sem, seval]; try simp) (by simp only [go_sem, seval]; try simp) (by simp only [go_sem, seval]; try simp) (by simp only [go_sem, seval]; try simp) ?_
  simp only [go_sem, seval]
  refine hK _ ?_
  clear hK K
  obtain rfl := Option.some.inj hx
  exact Walk.ret ⟨by simp, by simp⟩
noncomputable def blueprint_small (v1 : List Int) : Option (Bool) :=
  (slices_ContainsFunc_int__small_1 v1).bind fun v4 => some (!v4 : Bool)
theorem blueprint_small_ok (v1 : List Int) (r : Bool) (hx : blueprint_small v1 = some r) :
    ACalls Try.prog 63 [.d (.sl (List.map iD v1))] [] (.d (.bool r)) [] := by
  refine ACalls.of_sem (n := 6) 0 [2] (fn := Try.f63) Try.func63 rfl rfl (.one rfl) rfl (by simp) (by intro i; simp only [hget]; (repeat' split) <;> simp <;> omega) ?_
  unfold blueprint_small at hx
  refine Walk.seq (Walk.region' rfl fun K hK => ?_)
  simp only [go_sem, seval]
  refine hK _ ?_
  clear hK K
  refine Walk.seq (Walk.region' rfl fun K hK => ?_)
  obtain ⟨v4, h2, hx⟩ := bind_elim hx
  simp only [go_sem, seval]
  refine VCl.pure rfl (by simp only [go_sem, seval]; try simp) (slices_ContainsFunc_int__small_1_ok v1 _ h2) (by simp only [go_sem, seval]; try simp) (by simp only [go_sem, seval]; try simp) (by simp only [go_sem, seval]; try simp) (by simp only [go_sem, seval]; try simp) (by simp only [go_sem, seval]; try simp) (by simp only [go_sem, seval]; try simp) ?_
  simp only [go_sem, seval]
  refine hK _ ?_
  clear hK K
  obtain rfl := Option.some.inj hx
  exact Walk.ret ⟨by simp, by simp⟩
noncomputable def blueprint_Valid_l0 (v2 : List Row) (v1 : List Int) (v17 : Int) : Option ((Int) ⊕ (Bool)) :=
  bif decide (v17 < (v2.length : Int)) then ((rd v2 v17).bind fun v20 => bif decide (¬ (v20.Coefs.length : Int) = (v1.length : Int)) then (exitO (some (false : Bool))) else ((blueprint_small v20.Coefs).bind fun v21 => bif !v21 then (exitO (some (false : Bool))) else (bif decide ((max v20.Least v20.Most) > 1000000) then (exitO (some (false : Bool))) else (bif decide ((min v20.Least v20.Most) < (-1000000)) then (exitO (some (false : Bool))) else (contO (IntKind.i64.wrap (v17 + 1) : Int)))))) else (exitO (some (true : Bool)))
noncomputable def blueprint_Valid (v1 : List Int) (v2 : List Row) : Option (Bool) :=
  bif decide ((v1.length : Int) > 12) then (some (false : Bool)) else ((blueprint_in 10000 v1).bind fun v14 => bif !v14 then (some (false : Bool)) else (bif decide ((v2.length : Int) > 60) then (some (false : Bool)) else (iter (fun g : Int => blueprint_Valid_l0 v2 v1 g) 0)))
theorem blueprint_Valid_ok (v1 : List Int) (v2 : List Row) (r : Bool) (hx : blueprint_Valid v1 v2 = some r) :
    ACalls Try.prog 40 [.agg [.d (.sl (List.map iD v1)), .d (.sl (List.map Row.D v2))]] [] (.d (.bool r)) [] := by
  refine ACalls.of_sem (n := 58) 0 [2] (fn := Try.f40) Try.func40 rfl rfl (.one rfl) rfl (by simp) (by intro i; simp only [hget]; (repeat' split) <;> simp <;> omega) ?_
  unfold blueprint_Valid at hx
  refine Walk.seq (Walk.region' rfl fun K hK => ?_)
  simp only [go_sem, seval]
  refine hK _ ?_
  clear hK K
  refine Walk.seq (Walk.seq (Walk.region' rfl fun K hK => ?_))
  simp only [go_sem, seval]
  refine VGdO hx (fun g51 hx => ?_) (fun g51 hx => ?_)
  · simp only [go_sem, seval, g51]
    refine hK _ ?_
    clear hK K
    refine Walk.condT rfl (Walk.seq (Walk.region' rfl fun K hK => ?_))
    simp only [go_sem, seval, g51]
    refine hK _ ?_
    clear hK K
    obtain rfl := Option.some.inj hx
    exact Walk.ret ⟨by simp [g51], by simp [g51]⟩
  obtain ⟨v14, h52, hx⟩ := bind_elim hx
  simp only [go_sem, seval, g51]
  refine VCl.pure rfl (by simp only [go_sem, seval, g51]; try simp) (blueprint_in_ok 10000 v1 _ h52) (by simp only [go_sem, seval, g51]; try simp) (by simp only [go_sem, seval, g51]; try simp) (by simp only [go_sem, seval, g51]; try simp) (by simp only [go_sem, seval, g51]; try simp) (by simp only [go_sem, seval, g51]; try simp) (by simp only [go_sem, seval, g51]; try simp) ?_
  simp only [go_sem, seval, g51]
  refine VGdO hx (fun g53 hx => ?_) (fun g53 hx => ?_)
  · simp only [go_sem, seval, g51, g53]
    refine hK _ ?_
    clear hK K
    refine Walk.condT rfl (Walk.seq (Walk.region' rfl fun K hK => ?_))
    simp only [go_sem, seval, g51, g53]
    refine hK _ ?_
    clear hK K
    obtain rfl := Option.some.inj hx
    exact Walk.ret ⟨by simp [g51, g53], by simp [g51, g53]⟩
  simp only [go_sem, seval, g51, g53]
  refine hK _ ?_
  clear hK K
  refine Walk.condO rfl hx (fun c55 hx => ?_) (fun c55 hx => ?_)
  · refine Walk.seq (Walk.region' rfl fun K hK => ?_)
    simp only [go_sem, seval, g51, g53, c55]
    refine hK _ ?_
    clear hK K
    obtain rfl := Option.some.inj hx
    exact Walk.ret ⟨by simp [g51, g53, c55], by simp [g51, g53, c55]⟩
  refine Walk.skip (Walk.seq (Walk.seq (Walk.region' rfl fun K hK => ?_)))
  simp only [go_sem, seval, g51, g53, c55]
  refine hK _ ?_
  clear hK K
  refine Walk.block (Walk.loop ?_)
  refine Walk.weaken ⟨[(1, .box 1 0), (22, .d (.sl (List.map Row.D v2))), (23, .d (.int .i64 (v2.length : Int))), (24, .d (.int .i64 0))], [(1, some (.box [.d (.sl (List.map iD v1)), .d (.sl (List.map Row.D v2))]))]⟩ (by simp [g51, g53, c55] <;> omega) (by simp [g51, g53, c55] <;> omega) ?_
  refine Walk.iter (σ := Int) (fun g => ⟨[(1, .box 1 0), (22, .d (.sl (List.map Row.D v2))), (23, .d (.int .i64 (v2.length : Int))), (24, .d (.int .i64 g))], [(1, some (.box [.d (.sl (List.map iD v1)), .d (.sl (List.map Row.D v2))]))]⟩) (fun g : Int => blueprint_Valid_l0 v2 v1 g) _ (fun v17 y101 hx ih78 hr79 => ?_) 0 hx
  unfold blueprint_Valid_l0 at hx
  try dsimp only at hx ⊢
  refine Walk.seq (Walk.region' rfl fun K hK => ?_)
  simp only [go_sem, seval, g51, g53, c55]
  refine hK _ ?_
  clear hK K
  refine Walk.seq (Walk.condO rfl hx (fun c81 hx => ?_) (fun c81 hx => ?_))
  · refine Walk.skip (Walk.seq (Walk.block (Walk.seq (Walk.region' rfl fun K hK => ?_))))
    obtain ⟨v20, r82, a83, b84, c85, hx⟩ := rd_elim hx
    simp only [go_sem, seval, g51, g53, c55, c81, a83, b84, c85]
    repeat refine And.intro (by first | omega | (simp; done) | (simp; omega)) ?_
    refine hK _ ?_
    clear hK K
    refine Walk.seq (Walk.region' rfl fun K hK => ?_)
    simp only [go_sem, seval, g51, g53, c55, c81, a83, b84, c85]
    refine VGdO hx (fun g86 hx => ?_) (fun g86 hx => ?_)
    · simp only [go_sem, seval, g51, g53, c55, c81, a83, b84, c85, g86]
      refine hK _ ?_
      clear hK K
      refine Walk.condT rfl (Walk.seq (Walk.region' rfl fun K hK => ?_))
      simp only [go_sem, seval, g51, g53, c55, c81, a83, b84, c85, g86]
      refine hK _ ?_
      clear hK K
      obtain ⟨z87, e88, hx⟩ := exit_elim hx
      rw [hr79 z87 e88] at hx
      obtain rfl := Option.some.inj hx
      exact Walk.ret ⟨by simp [g51, g53, c55, c81, a83, b84, c85, g86], by simp [g51, g53, c55, c81, a83, b84, c85, g86]⟩
    obtain ⟨v21, h89, hx⟩ := bind_elim hx
    simp only [go_sem, seval, g51, g53, c55, c81, a83, b84, c85, g86]
    refine VCl.pure rfl (by simp only [go_sem, seval, g51, g53, c55, c81, a83, b84, c85, g86]; try simp) (blueprint_small_ok v20.Coefs _ h89) (by simp only [go_sem, seval, g51, g53, c55, c81, a83, b84, c85, g86]; try simp) (by simp only [go_sem, seval, g51, g53, c55, c81, a83, b84, c85, g86]; try simp) (by simp only [go_sem, seval, g51, g53, c55, c81, a83, b84, c85, g86]; try simp) (by simp only [go_sem, seval, g51, g53, c55, c81, a83, b84, c85, g86]; try simp) (by simp only [go_sem, seval, g51, g53, c55, c81, a83, b84, c85, g86]; try simp) (by simp only [go_sem, seval, g51, g53, c55, c81, a83, b84, c85, g86]; try simp) ?_
    simp only [go_sem, seval, g51, g53, c55, c81, a83, b84, c85, g86]
    refine VGdO hx (fun g90 hx => ?_) (fun g90 hx => ?_)
    · simp only [go_sem, seval, g51, g53, c55, c81, a83, b84, c85, g86, g90]
      refine hK _ ?_
      clear hK K
      refine Walk.condT rfl (Walk.seq (Walk.region' rfl fun K hK => ?_))
      simp only [go_sem, seval, g51, g53, c55, c81, a83, b84, c85, g86, g90]
      refine hK _ ?_
      clear hK K
      obtain ⟨z91, e92, hx⟩ := exit_elim hx
      rw [hr79 z91 e92] at hx
      obtain rfl := Option.some.inj hx
      exact Walk.ret ⟨by simp [g51, g53, c55, c81, a83, b84, c85, g86, g90], by simp [g51, g53, c55, c81, a83, b84, c85, g86, g90]⟩
    simp only [go_sem, seval, g51, g53, c55, c81, a83, b84, c85, g86, g90]
    refine VGdO hx (fun g93 hx => ?_) (fun g93 hx => ?_)
    · simp only [go_sem, seval, g51, g53, c55, c81, a83, b84, c85, g86, g90, g93]
      refine hK _ ?_
      clear hK K
      refine Walk.condT rfl (Walk.seq (Walk.region' rfl fun K hK => ?_))
      simp only [go_sem, seval, g51, g53, c55, c81, a83, b84, c85, g86, g90, g93]
      refine hK _ ?_
      clear hK K
      obtain ⟨z94, e95, hx⟩ := exit_elim hx
      rw [hr79 z94 e95] at hx
      obtain rfl := Option.some.inj hx
      exact Walk.ret ⟨by simp [g51, g53, c55, c81, a83, b84, c85, g86, g90, g93], by simp [g51, g53, c55, c81, a83, b84, c85, g86, g90, g93]⟩
    simp only [go_sem, seval, g51, g53, c55, c81, a83, b84, c85, g86, g90, g93]
    refine hK _ ?_
    clear hK K
    refine Walk.condO rfl hx (fun c96 hx => ?_) (fun c96 hx => ?_)
    · refine Walk.seq (Walk.region' rfl fun K hK => ?_)
      simp only [go_sem, seval, g51, g53, c55, c81, a83, b84, c85, g86, g90, g93, c96]
      refine hK _ ?_
      clear hK K
      obtain ⟨z97, e98, hx⟩ := exit_elim hx
      rw [hr79 z97 e98] at hx
      obtain rfl := Option.some.inj hx
      exact Walk.ret ⟨by simp [g51, g53, c55, c81, a83, b84, c85, g86, g90, g93, c96], by simp [g51, g53, c55, c81, a83, b84, c85, g86, g90, g93, c96]⟩
    refine Walk.skip (Walk.inBlock (Walk.region' rfl fun K hK => ?_))
    simp only [go_sem, seval, g51, g53, c55, c81, a83, b84, c85, g86, g90, g93, c96]
    refine hK _ ?_
    clear hK K
    exact Walk.weaken _ (by simp [g51, g53, c55, c81, a83, b84, c85, g86, g90, g93, c96] <;> omega) (by simp [g51, g53, c55, c81, a83, b84, c85, g86, g90, g93, c96] <;> omega) (ih78 _ (cont_elim hx))
  refine Walk.exit rfl ?_
  obtain ⟨z99, e100, hx⟩ := exit_elim hx
  rw [hr79 z99 e100] at hx
  refine Walk.seq (Walk.region' rfl fun K hK => ?_)
  simp only [go_sem, seval, g51, g53, c55, c81]
  refine hK _ ?_
  clear hK K
  obtain rfl := Option.some.inj hx
  exact Walk.ret ⟨by simp [g51, g53, c55, c81], by simp [g51, g53, c55, c81]⟩
noncomputable def blueprint_Span_l0 (v1 : List Int) (v4 : List Int) (v23 : Int) (v24 : Int) (v25 : Int) : Option ((Int × Int × Int) ⊕ (Int × Int × Bool)) :=
  bif decide (v25 < (v1.length : Int)) then ((rd v1 v25).bind fun v28 => (rd v4 v25).bind fun v29 => bif decide (v29 = 1) then (contO ((IntKind.i64.wrap (v23 + v28), IntKind.i64.wrap (v24 + v28), IntKind.i64.wrap (v25 + 1)) : Int × Int × Int)) else (bif decide (v29 = (-1)) then (contO ((IntKind.i64.wrap (v23 + (min v28 0)), IntKind.i64.wrap (v24 + (max v28 0)), IntKind.i64.wrap (v25 + 1)) : Int × Int × Int)) else (bif decide (v29 = 0) then (contO ((v23, v24, IntKind.i64.wrap (v25 + 1)) : Int × Int × Int)) else (exitO (some ((0, 0, false) : Int × Int × Bool)))))) else (exitO (some ((v23, v24, true) : Int × Int × Bool)))
noncomputable def blueprint_Span (v1 : List Int) (v2 : Int) (v3 : Int) (v4 : List Int) : Option (Int × Int × Bool) :=
  bif decide (¬ (v4.length : Int) = (v1.length : Int)) then (some ((0, 0, false) : Int × Int × Bool)) else (bif decide ((v4.length : Int) > 12) then (some ((0, 0, false) : Int × Int × Bool)) else ((blueprint_small v1).bind fun v20 => bif !v20 then (some ((0, 0, false) : Int × Int × Bool)) else (iter (fun g : Int × Int × Int => blueprint_Span_l0 v1 v4 g.1 g.2.1 g.2.2) (0, 0, 0))))
theorem blueprint_Span_ok (v1 : List Int) (v2 : Int) (v3 : Int) (v4 : List Int) (r : Int × Int × Bool) (hx : blueprint_Span v1 v2 v3 v4 = some r) :
    ACalls Try.prog 64 [.agg [.d (.sl (List.map iD v1)), .d (.int .i64 v2), .d (.int .i64 v3)], .d (.sl (List.map iD v4))] [] (.tup [.d (.int .i64 r.1), .d (.int .i64 r.2.1), .d (.bool r.2.2)]) [] := by
  refine ACalls.of_sem (n := 61) 0 [4, 5, 6] (fn := Try.f64) Try.func64 rfl rfl (.three rfl) rfl (by simp) (by intro i; simp only [hget]; (repeat' split) <;> simp <;> omega) ?_
  unfold blueprint_Span at hx
  refine Walk.seq (Walk.region' rfl fun K hK => ?_)
  simp only [go_sem, seval]
  refine hK _ ?_
  clear hK K
  refine Walk.seq (Walk.seq (Walk.region' rfl fun K hK => ?_))
  simp only [go_sem, seval]
  refine VGdO hx (fun g57 hx => ?_) (fun g57 hx => ?_)
  · simp only [go_sem, seval, g57]
    refine hK _ ?_
    clear hK K
    refine Walk.condT rfl (Walk.seq (Walk.region' rfl fun K hK => ?_))
    simp only [go_sem, seval, g57]
    refine hK _ ?_
    clear hK K
    obtain rfl := Option.some.inj hx
    exact Walk.ret ⟨by simp [g57], by simp [g57]⟩
  simp only [go_sem, seval, g57]
  refine VGdO hx (fun g58 hx => ?_) (fun g58 hx => ?_)
  · simp only [go_sem, seval, g57, g58]
    refine hK _ ?_
    clear hK K
    refine Walk.condT rfl (Walk.seq (Walk.region' rfl fun K hK => ?_))
    simp only [go_sem, seval, g57, g58]
    refine hK _ ?_
    clear hK K
    obtain rfl := Option.some.inj hx
    exact Walk.ret ⟨by simp [g57, g58], by simp [g57, g58]⟩
  obtain ⟨v20, h59, hx⟩ := bind_elim hx
  simp only [go_sem, seval, g57, g58]
  refine VCl.pure rfl (by simp only [go_sem, seval, g57, g58]; try simp) (blueprint_small_ok v1 _ h59) (by simp only [go_sem, seval, g57, g58]; try simp) (by simp only [go_sem, seval, g57, g58]; try simp) (by simp only [go_sem, seval, g57, g58]; try simp) (by simp only [go_sem, seval, g57, g58]; try simp) (by simp only [go_sem, seval, g57, g58]; try simp) (by simp only [go_sem, seval, g57, g58]; try simp) ?_
  simp only [go_sem, seval, g57, g58]
  refine hK _ ?_
  clear hK K
  refine Walk.condO rfl hx (fun c61 hx => ?_) (fun c61 hx => ?_)
  · refine Walk.seq (Walk.region' rfl fun K hK => ?_)
    simp only [go_sem, seval, g57, g58, c61]
    refine hK _ ?_
    clear hK K
    obtain rfl := Option.some.inj hx
    exact Walk.ret ⟨by simp [g57, g58, c61], by simp [g57, g58, c61]⟩
  refine Walk.skip (Walk.seq (Walk.seq (Walk.region' rfl fun K hK => ?_)))
  simp only [go_sem, seval, g57, g58, c61]
  refine hK _ ?_
  clear hK K
  refine Walk.block (Walk.loop ?_)
  refine Walk.weaken ⟨[(1, .d (.sl (List.map iD v4))), (4, .d (.int .i64 0)), (5, .d (.int .i64 0)), (27, .d (.sl (List.map iD v1))), (28, .d (.int .i64 (v1.length : Int))), (29, .d (.int .i64 0))], []⟩ (by simp [g57, g58, c61] <;> omega) (by simp [g57, g58, c61] <;> omega) ?_
  refine Walk.iter (σ := Int × Int × Int) (fun g => ⟨[(1, .d (.sl (List.map iD v4))), (4, .d (.int .i64 g.1)), (5, .d (.int .i64 g.2.1)), (27, .d (.sl (List.map iD v1))), (28, .d (.int .i64 (v1.length : Int))), (29, .d (.int .i64 g.2.2))], []⟩) (fun g : Int × Int × Int => blueprint_Span_l0 v1 v4 g.1 g.2.1 g.2.2) _ (fun g y107 hx ih88 hr89 => ?_) (0, 0, 0) hx
  obtain ⟨v23, v24, v25⟩ := g
  unfold blueprint_Span_l0 at hx
  try dsimp only at hx ⊢
  refine Walk.seq (Walk.region' rfl fun K hK => ?_)
  simp only [go_sem, seval, g57, g58, c61]
  refine hK _ ?_
  clear hK K
  refine Walk.seq (Walk.condO rfl hx (fun c91 hx => ?_) (fun c91 hx => ?_))
  · refine Walk.skip (Walk.seq (Walk.block (Walk.seq (Walk.region' rfl fun K hK => ?_))))
    obtain ⟨v28, r92, a93, b94, c95, hx⟩ := rd_elim hx
    simp only [go_sem, seval, g57, g58, c61, c91, a93, b94, c95]
    repeat refine And.intro (by first | omega | (simp; done) | (simp; omega)) ?_
    refine hK _ ?_
    clear hK K
    refine Walk.seq (Walk.region' rfl fun K hK => ?_)
    obtain ⟨v29, r96, a97, b98, c99, hx⟩ := rd_elim hx
    simp only [go_sem, seval, g57, g58, c61, c91, a93, b94, c95, a97, b98, c99]
    repeat refine And.intro (by first | omega | (simp; done) | (simp; omega)) ?_
    refine hK _ ?_
    clear hK K
    refine Walk.block (Walk.seq (Walk.region' rfl fun K hK => ?_))
    simp only [go_sem, seval, g57, g58, c61, c91, a93, b94, c95, a97, b98, c99]
    refine hK _ ?_
    clear hK K
    refine Walk.condO rfl hx (fun c100 hx => ?_) (fun c100 hx => ?_)
    · refine Walk.region' rfl fun K hK => ?_
      simp only [go_sem, seval, g57, g58, c61, c91, a93, b94, c95, a97, b98, c99, c100]
      refine hK _ ?_
      clear hK K
      refine Walk.inBlock (Walk.inBlock (Walk.region' rfl fun K hK => ?_))
      simp only [go_sem, seval, g57, g58, c61, c91, a93, b94, c95, a97, b98, c99, c100]
      refine hK _ ?_
      clear hK K
      exact Walk.weaken _ (by simp [g57, g58, c61, c91, a93, b94, c95, a97, b98, c99, c100] <;> omega) (by simp [g57, g58, c61, c91, a93, b94, c95, a97, b98, c99, c100] <;> omega) (ih88 _ (cont_elim hx))
    refine Walk.seq (Walk.region' rfl fun K hK => ?_)
    simp only [go_sem, seval, g57, g58, c61, c91, a93, b94, c95, a97, b98, c99, c100]
    refine hK _ ?_
    clear hK K
    refine Walk.condO rfl hx (fun c101 hx => ?_) (fun c101 hx => ?_)
    · refine Walk.region' rfl fun K hK => ?_
      simp only [go_sem, seval, g57, g58, c61, c91, a93, b94, c95, a97, b98, c99, c100, c101]
      refine hK _ ?_
      clear hK K
      refine Walk.inBlock (Walk.inBlock (Walk.region' rfl fun K hK => ?_))
      simp only [go_sem, seval, g57, g58, c61, c91, a93, b94, c95, a97, b98, c99, c100, c101]
      refine hK _ ?_
      clear hK K
      exact Walk.weaken _ (by simp [g57, g58, c61, c91, a93, b94, c95, a97, b98, c99, c100, c101] <;> omega) (by simp [g57, g58, c61, c91, a93, b94, c95, a97, b98, c99, c100, c101] <;> omega) (ih88 _ (cont_elim hx))
    refine Walk.seq (Walk.region' rfl fun K hK => ?_)
    simp only [go_sem, seval, g57, g58, c61, c91, a93, b94, c95, a97, b98, c99, c100, c101]
    refine hK _ ?_
    clear hK K
    refine Walk.condO rfl hx (fun c102 hx => ?_) (fun c102 hx => ?_)
    · refine Walk.skip (Walk.inBlock (Walk.inBlock (Walk.region' rfl fun K hK => ?_)))
      simp only [go_sem, seval, g57, g58, c61, c91, a93, b94, c95, a97, b98, c99, c100, c101, c102]
      refine hK _ ?_
      clear hK K
      exact Walk.weaken _ (by simp [g57, g58, c61, c91, a93, b94, c95, a97, b98, c99, c100, c101, c102] <;> omega) (by simp [g57, g58, c61, c91, a93, b94, c95, a97, b98, c99, c100, c101, c102] <;> omega) (ih88 _ (cont_elim hx))
    refine Walk.seq (Walk.region' rfl fun K hK => ?_)
    simp only [go_sem, seval, g57, g58, c61, c91, a93, b94, c95, a97, b98, c99, c100, c101, c102]
    refine hK _ ?_
    clear hK K
    obtain ⟨z103, e104, hx⟩ := exit_elim hx
    rw [hr89 z103 e104] at hx
    obtain rfl := Option.some.inj hx
    exact Walk.ret ⟨by simp [g57, g58, c61, c91, a93, b94, c95, a97, b98, c99, c100, c101, c102], by simp [g57, g58, c61, c91, a93, b94, c95, a97, b98, c99, c100, c101, c102]⟩
  refine Walk.exit rfl ?_
  obtain ⟨z105, e106, hx⟩ := exit_elim hx
  rw [hr89 z105 e106] at hx
  refine Walk.seq (Walk.region' rfl fun K hK => ?_)
  simp only [go_sem, seval, g57, g58, c61, c91]
  refine hK _ ?_
  clear hK K
  obtain rfl := Option.some.inj hx
  exact Walk.ret ⟨by simp [g57, g58, c61, c91], by simp [g57, g58, c61, c91]⟩
noncomputable def blueprint_Dead_l0 (v2 : List Row) (v3 : List Int) (v18 : Int) : Option ((Int) ⊕ (Int)) :=
  bif decide (v18 < (v2.length : Int)) then ((rd v2 v18).bind fun v21 => (blueprint_Span v21.Coefs v21.Least v21.Most v3).bind fun v22 => bif v22.2.2 then (bif decide (v22.1 > v21.Most) then (exitO (some (v18 : Int))) else (bif decide (v22.2.1 < v21.Least) then (exitO (some (v18 : Int))) else (bif decide (v21.Least > v21.Most) then (exitO (some (v18 : Int))) else (contO (IntKind.i64.wrap (v18 + 1) : Int))))) else (contO (IntKind.i64.wrap (v18 + 1) : Int))) else (exitO (some (-1 : Int)))
noncomputable def blueprint_Dead (v1 : List Int) (v2 : List Row) (v3 : List Int) : Option (Int) :=
  (blueprint_Valid v1 v2).bind fun v15 => bif !v15 then (some (-1 : Int)) else (iter (fun g : Int => blueprint_Dead_l0 v2 v3 g) 0)
theorem blueprint_Dead_ok (v1 : List Int) (v2 : List Row) (v3 : List Int) (r : Int) (hx : blueprint_Dead v1 v2 v3 = some r) :
    ACalls Try.prog 42 [.agg [.d (.sl (List.map iD v1)), .d (.sl (List.map Row.D v2))], .d (.sl (List.map iD v3))] [] (.d (.int .i64 r)) [] := by
  refine ACalls.of_sem (n := 50) 0 [4] (fn := Try.f42) Try.func42 rfl rfl (.one rfl) rfl (by simp) (by intro i; simp only [hget]; (repeat' split) <;> simp <;> omega) ?_
  unfold blueprint_Dead at hx
  refine Walk.seq (Walk.region' rfl fun K hK => ?_)
  simp only [go_sem, seval]
  refine hK _ ?_
  clear hK K
  refine Walk.seq (Walk.seq (Walk.region' rfl fun K hK => ?_))
  obtain ⟨v15, h45, hx⟩ := bind_elim hx
  simp only [go_sem, seval]
  refine VCl.pure rfl (by simp only [go_sem, seval]; try simp) (blueprint_Valid_ok v1 v2 _ h45) (by simp only [go_sem, seval]; try simp) (by simp only [go_sem, seval]; try simp) (by simp only [go_sem, seval]; try simp) (by simp only [go_sem, seval]; try simp) (by simp only [go_sem, seval]; try simp) (by simp only [go_sem, seval]; try simp) ?_
  simp only [go_sem, seval]
  refine hK _ ?_
  clear hK K
  refine Walk.condO rfl hx (fun c47 hx => ?_) (fun c47 hx => ?_)
  · refine Walk.seq (Walk.region' rfl fun K hK => ?_)
    simp only [go_sem, seval, c47]
    refine hK _ ?_
    clear hK K
    obtain rfl := Option.some.inj hx
    exact Walk.ret ⟨by simp [c47], by simp [c47]⟩
  refine Walk.skip (Walk.seq (Walk.seq (Walk.region' rfl fun K hK => ?_)))
  simp only [go_sem, seval, c47]
  refine hK _ ?_
  clear hK K
  refine Walk.block (Walk.loop ?_)
  refine Walk.weaken ⟨[(1, .d (.sl (List.map iD v3))), (14, .d (.sl (List.map Row.D v2))), (15, .d (.int .i64 (v2.length : Int))), (16, .d (.int .i64 0))], []⟩ (by simp [c47] <;> omega) (by simp [c47] <;> omega) ?_
  refine Walk.iter (σ := Int) (fun g => ⟨[(1, .d (.sl (List.map iD v3))), (14, .d (.sl (List.map Row.D v2))), (15, .d (.int .i64 (v2.length : Int))), (16, .d (.int .i64 g))], []⟩) (fun g : Int => blueprint_Dead_l0 v2 v3 g) _ (fun v18 y91 hx ih70 hr71 => ?_) 0 hx
  unfold blueprint_Dead_l0 at hx
  try dsimp only at hx ⊢
  refine Walk.seq (Walk.region' rfl fun K hK => ?_)
  simp only [go_sem, seval, c47]
  refine hK _ ?_
  clear hK K
  refine Walk.seq (Walk.condO rfl hx (fun c73 hx => ?_) (fun c73 hx => ?_))
  · refine Walk.skip (Walk.seq (Walk.block (Walk.seq (Walk.region' rfl fun K hK => ?_))))
    obtain ⟨v21, r74, a75, b76, c77, hx⟩ := rd_elim hx
    simp only [go_sem, seval, c47, c73, a75, b76, c77]
    repeat refine And.intro (by first | omega | (simp; done) | (simp; omega)) ?_
    refine hK _ ?_
    clear hK K
    refine Walk.seq (Walk.region' rfl fun K hK => ?_)
    obtain ⟨v22, h78, hx⟩ := bind_elim hx
    simp only [go_sem, seval, c47, c73, a75, b76, c77]
    refine VCl.pure rfl (by simp only [go_sem, seval, c47, c73, a75, b76, c77]; try simp) (blueprint_Span_ok v21.Coefs v21.Least v21.Most v3 _ h78) (by simp only [go_sem, seval, c47, c73, a75, b76, c77]; try simp) (by simp only [go_sem, seval, c47, c73, a75, b76, c77]; try simp) (by simp only [go_sem, seval, c47, c73, a75, b76, c77]; try simp) (by simp only [go_sem, seval, c47, c73, a75, b76, c77]; try simp) (by simp only [go_sem, seval, c47, c73, a75, b76, c77]; try simp) (by simp only [go_sem, seval, c47, c73, a75, b76, c77]; try simp) ?_
    simp only [go_sem, seval, c47, c73, a75, b76, c77]
    refine hK _ ?_
    clear hK K
    refine Walk.seq (Walk.region' rfl fun K hK => ?_)
    simp only [go_sem, seval, c47, c73, a75, b76, c77]
    refine VGdO hx (fun g79 hx => ?_) (fun g79 hx => ?_)
    · simp only [go_sem, seval, c47, c73, a75, b76, c77, g79]
      refine VGdO hx (fun g80 hx => ?_) (fun g80 hx => ?_)
      · simp only [go_sem, seval, c47, c73, a75, b76, c77, g79, g80]
        refine hK _ ?_
        clear hK K
        refine Walk.condT rfl (Walk.seq (Walk.region' rfl fun K hK => ?_))
        simp only [go_sem, seval, c47, c73, a75, b76, c77, g79, g80]
        refine hK _ ?_
        clear hK K
        obtain ⟨z81, e82, hx⟩ := exit_elim hx
        rw [hr71 z81 e82] at hx
        obtain rfl := Option.some.inj hx
        exact Walk.ret ⟨by simp [c47, c73, a75, b76, c77, g79, g80], by simp [c47, c73, a75, b76, c77, g79, g80]⟩
      simp only [go_sem, seval, c47, c73, a75, b76, c77, g79, g80]
      refine VGdO hx (fun g83 hx => ?_) (fun g83 hx => ?_)
      · simp only [go_sem, seval, c47, c73, a75, b76, c77, g79, g80, g83]
        refine hK _ ?_
        clear hK K
        refine Walk.condT rfl (Walk.seq (Walk.region' rfl fun K hK => ?_))
        simp only [go_sem, seval, c47, c73, a75, b76, c77, g79, g80, g83]
        refine hK _ ?_
        clear hK K
        obtain ⟨z84, e85, hx⟩ := exit_elim hx
        rw [hr71 z84 e85] at hx
        obtain rfl := Option.some.inj hx
        exact Walk.ret ⟨by simp [c47, c73, a75, b76, c77, g79, g80, g83], by simp [c47, c73, a75, b76, c77, g79, g80, g83]⟩
      simp only [go_sem, seval, c47, c73, a75, b76, c77, g79, g80, g83]
      refine hK _ ?_
      clear hK K
      refine Walk.condO rfl hx (fun c86 hx => ?_) (fun c86 hx => ?_)
      · refine Walk.seq (Walk.region' rfl fun K hK => ?_)
        simp only [go_sem, seval, c47, c73, a75, b76, c77, g79, g80, g83, c86]
        refine hK _ ?_
        clear hK K
        obtain ⟨z87, e88, hx⟩ := exit_elim hx
        rw [hr71 z87 e88] at hx
        obtain rfl := Option.some.inj hx
        exact Walk.ret ⟨by simp [c47, c73, a75, b76, c77, g79, g80, g83, c86], by simp [c47, c73, a75, b76, c77, g79, g80, g83, c86]⟩
      refine Walk.skip (Walk.inBlock (Walk.region' rfl fun K hK => ?_))
      simp only [go_sem, seval, c47, c73, a75, b76, c77, g79, g80, g83, c86]
      refine hK _ ?_
      clear hK K
      exact Walk.weaken _ (by simp [c47, c73, a75, b76, c77, g79, g80, g83, c86] <;> omega) (by simp [c47, c73, a75, b76, c77, g79, g80, g83, c86] <;> omega) (ih70 _ (cont_elim hx))
    simp only [go_sem, seval, c47, c73, a75, b76, c77, g79]
    refine hK _ ?_
    clear hK K
    refine Walk.condF rfl (Walk.skip (Walk.inBlock (Walk.region' rfl fun K hK => ?_)))
    simp only [go_sem, seval, c47, c73, a75, b76, c77, g79]
    refine hK _ ?_
    clear hK K
    exact Walk.weaken _ (by simp [c47, c73, a75, b76, c77, g79] <;> omega) (by simp [c47, c73, a75, b76, c77, g79] <;> omega) (ih70 _ (cont_elim hx))
  refine Walk.exit rfl ?_
  obtain ⟨z89, e90, hx⟩ := exit_elim hx
  rw [hr71 z89 e90] at hx
  refine Walk.seq (Walk.region' rfl fun K hK => ?_)
  simp only [go_sem, seval, c47, c73]
  refine hK _ ?_
  clear hK K
  obtain rfl := Option.some.inj hx
  exact Walk.ret ⟨by simp [c47, c73], by simp [c47, c73]⟩
noncomputable def slices_Clone_int (v1 : List Int) : Option (List Int) :=
  bif decide (v1.length = 0) then (some ([] : List Int)) else (chk ((0 + v1.length) * 8 ≤ 140737488355328) (some (([] ++ v1) : List Int)))
theorem slices_Clone_int_ok (v1 : List Int) (r : List Int) (hx : slices_Clone_int v1 = some r) :
    ACalls Try.prog 43 [.d (.sl (List.map iD v1))] [] (.arr 2000 0 r.length) [(2000, some (.arr 3 1 (List.map iD r)))] := by
  refine ACalls.of_sem (n := 8) 0 [2] (fn := Try.f43) Try.func43 rfl rfl (.one rfl) rfl (by simp) (by intro i; simp only [hget]; (repeat' split) <;> simp <;> omega) ?_
  unfold slices_Clone_int at hx
  refine Walk.fix ⟨[(2, .arr 2000 0 r.length)], [(2000, some (.arr 3 1 (List.map iD r)))]⟩ ⟨by simp, by simp⟩ ?_
  refine Walk.seq (Walk.region' rfl fun K hK => ?_)
  simp only [go_sem, seval]
  refine hK _ ?_
  clear hK K
  refine Walk.seq (Walk.seq ?_)
  rcases Nat.eq_zero_or_pos v1.length with z3 | z3
  · rw [bif_pos z3] at hx
    obtain rfl := List.eq_nil_of_length_eq_zero z3
    refine Walk.weaken ⟨[(0, .d (.sl (List.map iD [])))], []⟩ (by simp [argE]) (by simp) ?_
    refine Walk.nlS 0 (by simp) (fun b => ?_)
    cases b
    · refine Walk.weaken ⟨[(0, .nl false)], []⟩ (by simp) (by simp) ?_
      refine Walk.region' rfl fun K hK => ?_
      simp only [go_sem, seval]
      refine hK _ ?_
      clear hK K
      refine Walk.condF rfl (Walk.skip (Walk.seq (Walk.region' rfl fun K hK => ?_)))
      simp only [go_sem, seval]
      repeat refine And.intro (by first | omega | (simp; done) | (simp; omega)) ?_
      refine hK _ ?_
      clear hK K
      refine Walk.weaken ⟨[(2, .arr 5 0 0)], [(5, some (.arr 3 1 (List.map iD [])))]⟩ (by simp <;> omega) (by simp <;> omega) ?_
      refine Walk.weaken ⟨[(2, .arr 5 0 0)], [(5, some (.arr 3 1 (List.map iD [])))]⟩ (by simp <;> omega) (by simp <;> omega) ?_
      refine Walk.rename 5 2000 (by omega) (by omega) (by simp) (by simp) ?_
      simp only [renE, renL, AV.ren, AV.rens, AObj.ren, swp, Option.map_some, reduceIte, Nat.reduceEqDiff]
      obtain rfl := Option.some.inj hx
      exact Walk.weaken _ (by simp <;> omega) (by simp <;> omega) (Walk.ret rfl)
    refine Walk.weaken ⟨[(0, .nl true)], []⟩ (by simp) (by simp) ?_
    refine Walk.region' rfl fun K hK => ?_
    simp only [go_sem, seval]
    refine hK _ ?_
    clear hK K
    refine Walk.condT rfl (Walk.seq (Walk.region' rfl fun K hK => ?_))
    simp only [go_sem, seval]
    refine hK _ ?_
    clear hK K
    refine Walk.weaken ⟨[(2, .nils)], []⟩ (by simp <;> omega) (by simp <;> omega) ?_
    refine Walk.up 2000 3 1 [(2, .arr 2000 0 0)] [] (by simp) (by simp) (by omega) (by simp) (by simp) (by simp) ?_
    obtain rfl := Option.some.inj hx
    exact Walk.weaken _ (by simp <;> omega) (by simp <;> omega) (Walk.ret rfl)
  rw [bif_neg (by omega)] at hx
  refine Walk.region' rfl fun K hK => ?_
  simp only [go_sem, seval, z3]
  repeat refine And.intro (by first | omega | (simp; done) | (simp; omega)) ?_
  refine hK _ ?_
  clear hK K
  refine Walk.condF rfl (Walk.skip (Walk.seq (Walk.region' rfl fun K hK => ?_)))
  obtain ⟨k4, hx⟩ := chk_elim hx
  simp only [go_sem, seval, z3, k4]
  repeat refine And.intro (by first | omega | (simp; done) | (simp; omega)) ?_
  refine hK _ ?_
  clear hK K
  refine Walk.weaken ⟨[(2, .arr 5 0 (([] ++ v1).length))], [(5, some (.arr 3 1 (List.map iD ([] ++ v1))))]⟩ (by simp [z3, k4] <;> omega) (by simp [z3, k4] <;> omega) ?_
  refine Walk.weaken ⟨[(2, .arr 5 0 (([] ++ v1).length))], [(5, some (.arr 3 1 (List.map iD ([] ++ v1))))]⟩ (by simp [z3, k4] <;> omega) (by simp [z3, k4] <;> omega) ?_
  refine Walk.rename 5 2000 (by omega) (by omega) (by simp) (by simp) ?_
  simp only [renE, renL, AV.ren, AV.rens, AObj.ren, swp, Option.map_some, reduceIte, Nat.reduceEqDiff]
  obtain rfl := Option.some.inj hx
  exact Walk.weaken _ (by simp [z3, k4] <;> omega) (by simp [z3, k4] <;> omega) (Walk.ret rfl)
noncomputable def assembly_All_1_3_l3 (rec : (List Int) → (List Int) → (List Row) → (List Int) → (List (List Int)) → Option (List (List Int) × List Int)) (v2 : List Int) (v3 : List Row) (v252 : Int) (v253 : List (List Int)) (v254 : List Int) (v1 : List Int) (v290 : Int) (v291 : List Int) : Option ((Int × List Int) ⊕ ((Int × List (List Int) × List Int) ⊕ (List (List Int) × List Int))) :=
  bif decide (v290 < (v291.length : Int)) then ((rd v291 v290).bind fun v293 => contO ((IntKind.i64.wrap (v290 + 1), (v291.set (v290).toNat (-1))) : Int × List Int)) else (exitO ((blueprint_Dead v2 v3 v291).bind fun v295 => bif decide (v295 ≥ 0) then (contO ((IntKind.i64.wrap (v252 + 1), v253, v254) : Int × List (List Int) × List Int)) else ((rd v254 v252).bind fun v296 => chk ((v1.length + 1) * 8 ≤ 140737488355328) ((rec (v1 ++ [v252]) v2 v3 (v254.set (v252).toNat 1) v253).bind fun v297 => (rd v297.2 v252).bind fun v298 => contO ((IntKind.i64.wrap (v252 + 1), v297.1, (v297.2.set (v252).toNat 0)) : Int × List (List Int) × List Int)))))
noncomputable def assembly_All_1_3_l2 (rec : (List Int) → (List Int) → (List Row) → (List Int) → (List (List Int)) → Option (List (List Int) × List Int)) (v2 : List Int) (v3 : List Row) (v1 : List Int) (v252 : Int) (v253 : List (List Int)) (v254 : List Int) : Option ((Int × List (List Int) × List Int) ⊕ (List (List Int) × List Int)) :=
  bif decide (v252 < (v254.length : Int)) then ((slices_Clone_int v254).bind fun v277 => (rd v277 v252).bind fun v278 => iter (fun g : Int × List Int => assembly_All_1_3_l3 rec v2 v3 v252 v253 v254 v1 g.1 g.2) (IntKind.i64.wrap (v252 + 1), (v277.set (v252).toNat 1))) else (exitO (some ((v253, v254) : List (List Int) × List Int)))
noncomputable def assembly_All_1_3_j1 (rec : (List Int) → (List Int) → (List Row) → (List Int) → (List (List Int)) → Option (List (List Int) × List Int)) (v2 : List Int) (v3 : List Row) (v1 : List Int) (v227 : List (List Int)) (v4 : List Int) (v229 : Int) : Option (List (List Int) × List Int) :=
  iter (fun g : Int × List (List Int) × List Int => assembly_All_1_3_l2 rec v2 v3 v1 g.1 g.2.1 g.2.2) (v229, v227, v4)
noncomputable def assembly_All_1_3_j0 (rec : (List Int) → (List Int) → (List Row) → (List Int) → (List (List Int)) → Option (List (List Int) × List Int)) (v1 : List Int) (v2 : List Int) (v3 : List Row) (v4 : List Int) (v227 : List (List Int)) : Option (List (List Int) × List Int) :=
  bif decide ((v1.length : Int) > 0) then ((rd v1 (IntKind.i64.wrap ((v1.length : Int) - 1))).bind fun v299 => assembly_All_1_3_j1 rec v2 v3 v1 v227 v4 (IntKind.i64.wrap (v299 + 1))) else (assembly_All_1_3_j1 rec v2 v3 v1 v227 v4 0)
noncomputable def assembly_All_1_3_F (rec : (List Int) → (List Int) → (List Row) → (List Int) → (List (List Int)) → Option (List (List Int) × List Int)) (v1 : List Int) (v2 : List Int) (v3 : List Row) (v4 : List Int) (v5 : List (List Int)) : Option (List (List Int) × List Int) :=
  (blueprint_Dead v2 v3 v4).bind fun v300 => bif decide (v300 < 0) then ((slices_Clone_int v1).bind fun v301 => chk ((v5.length + 1) * 24 ≤ 140737488355328) (assembly_All_1_3_j0 rec v1 v2 v3 v4 (v5 ++ [v301]))) else (assembly_All_1_3_j0 rec v1 v2 v3 v4 v5)
theorem assembly_All_1_3_F_ok (rec : (List Int) → (List Int) → (List Row) → (List Int) → (List (List Int)) → Option (List (List Int) × List Int)) (hrec : ∀ (v1 : List Int) (v2 : List Int) (v3 : List Row) (v4 : List Int) (v5 : List (List Int)) (r : List (List Int) × List Int), rec v1 v2 v3 v4 v5 = some r → ACalls Try.prog 41 [.arr 0 0 v1.length, .box 1 0, .box 2 0, .box 4 0, .box 6 0] [(0, some (.pre (List.map (D.int .i64) v1))), (1, some (.box [.d (.sl (List.map iD v2)), .d (.sl (List.map Row.D v3))])), (2, some (.box [.arr 3 0 v4.length])), (3, some (.arr 3 1 (List.map iD v4))), (4, some (.box [.arr 5 0 v5.length])), (5, some (.arr 22 1 (List.map (lD iD) v5))), (6, some (.box [.fn 41 [.box 1 0, .box 2 0, .box 4 0, .box 6 0]]))] (.tup []) [(0, some (.pre (List.map (D.int .i64) v1))), (1, some (.box [.d (.sl (List.map iD v2)), .d (.sl (List.map Row.D v3))])), (2, some (.box [.arr 3 0 r.2.length])), (3, some (.arr 3 1 (List.map iD r.2))), (4, some (.box [.arr 5 0 r.1.length])), (5, some (.arr 22 1 (List.map (lD iD) r.1))), (6, some (.box [.fn 41 [.box 1 0, .box 2 0, .box 4 0, .box 6 0]]))]) (v1 : List Int) (v2 : List Int) (v3 : List Row) (v4 : List Int) (v5 : List (List Int)) (r : List (List Int) × List Int) (hx : assembly_All_1_3_F rec v1 v2 v3 v4 v5 = some r) :
    ACalls Try.prog 41 [.arr 0 0 v1.length, .box 1 0, .box 2 0, .box 4 0, .box 6 0] [(0, some (.pre (List.map (D.int .i64) v1))), (1, some (.box [.d (.sl (List.map iD v2)), .d (.sl (List.map Row.D v3))])), (2, some (.box [.arr 3 0 v4.length])), (3, some (.arr 3 1 (List.map iD v4))), (4, some (.box [.arr 5 0 v5.length])), (5, some (.arr 22 1 (List.map (lD iD) v5))), (6, some (.box [.fn 41 [.box 1 0, .box 2 0, .box 4 0, .box 6 0]]))] (.tup []) [(0, some (.pre (List.map (D.int .i64) v1))), (1, some (.box [.d (.sl (List.map iD v2)), .d (.sl (List.map Row.D v3))])), (2, some (.box [.arr 3 0 r.2.length])), (3, some (.arr 3 1 (List.map iD r.2))), (4, some (.box [.arr 5 0 r.1.length])), (5, some (.arr 22 1 (List.map (lD iD) r.1))), (6, some (.box [.fn 41 [.box 1 0, .box 2 0, .box 4 0, .box 6 0]]))] := by
  refine ACalls.of_sem (n := 69) 7 [] (fn := Try.f41) Try.func41 rfl rfl (.zero rfl) rfl (by simp) (by intro i; simp only [hget]; (repeat' split) <;> simp <;> omega) ?_
  unfold assembly_All_1_3_F at hx
  refine Walk.fix ⟨[], [(0, some (.pre (List.map (D.int .i64) v1))), (1, some (.box [.d (.sl (List.map iD v2)), .d (.sl (List.map Row.D v3))])), (2, some (.box [.arr 3 0 r.2.length])), (3, some (.arr 3 1 (List.map iD r.2))), (4, some (.box [.arr 5 0 r.1.length])), (5, some (.arr 22 1 (List.map (lD iD) r.1))), (6, some (.box [.fn 41 [.box 1 0, .box 2 0, .box 4 0, .box 6 0]]))]⟩ ⟨by simp, by simp⟩ ?_
  refine Walk.scope (Walk.seq (Walk.join (G := List (List Int)) (fun g => ⟨[(0, .arr 0 0 v1.length), (1, .box 1 0), (2, .box 2 0), (4, .box 6 0)], [(0, some (.pre (List.map (D.int .i64) v1))), (1, some (.box [.d (.sl (List.map iD v2)), .d (.sl (List.map Row.D v3))])), (2, some (.box [.arr 3 0 v4.length])), (3, some (.arr 3 1 (List.map iD v4))), (4, some (.box [.arr 5 0 g.length])), (5, some (.arr 22 1 (List.map (lD iD) g))), (6, some (.box [.fn 41 [.box 1 0, .box 2 0, .box 4 0, .box 6 0]]))]⟩) (fun g => assembly_All_1_3_j0 rec v1 v2 v3 v4 g) hx (fun v227 hx => ?_) (fun fin825 => ?_)))
  · unfold assembly_All_1_3_j0 at hx
    try dsimp only at hx ⊢
    refine Walk.seq (Walk.region' rfl fun K hK => ?_)
    simp only [go_sem, seval]
    refine hK _ ?_
    clear hK K
    refine Walk.seq (Walk.join (G := Int) (fun g => ⟨[(0, .arr 0 0 v1.length), (1, .box 1 0), (2, .box 2 0), (4, .box 6 0), (6, .d (.int .i64 g))], [(0, some (.pre (List.map (D.int .i64) v1))), (1, some (.box [.d (.sl (List.map iD v2)), .d (.sl (List.map Row.D v3))])), (2, some (.box [.arr 3 0 v4.length])), (3, some (.arr 3 1 (List.map iD v4))), (4, some (.box [.arr 5 0 v227.length])), (5, some (.arr 22 1 (List.map (lD iD) v227))), (6, some (.box [.fn 41 [.box 1 0, .box 2 0, .box 4 0, .box 6 0]]))]⟩) (fun g => assembly_All_1_3_j1 rec v2 v3 v1 v227 v4 g) hx (fun v229 hx => ?_) (fun fin834 => ?_))
    · unfold assembly_All_1_3_j1 at hx
      try dsimp only at hx ⊢
      refine Walk.seq (Walk.label (Walk.seq (Walk.region' rfl fun K hK => ?_)))
      simp only [go_sem, seval]
      refine hK _ ?_
      clear hK K
      refine Walk.block (Walk.loop ?_)
      refine Walk.weaken ⟨[(0, .arr 0 0 v1.length), (1, .box 1 0), (2, .box 2 0), (4, .box 6 0), (8, .d (.int .i64 v229))], [(0, some (.pre (List.map (D.int .i64) v1))), (1, some (.box [.d (.sl (List.map iD v2)), .d (.sl (List.map Row.D v3))])), (2, some (.box [.arr 3 0 v4.length])), (3, some (.arr 3 1 (List.map iD v4))), (4, some (.box [.arr 5 0 v227.length])), (5, some (.arr 22 1 (List.map (lD iD) v227))), (6, some (.box [.fn 41 [.box 1 0, .box 2 0, .box 4 0, .box 6 0]]))]⟩ (by simp <;> omega) (by simp <;> omega) ?_
      refine Walk.iter (σ := Int × List (List Int) × List Int) (fun g => ⟨[(0, .arr 0 0 v1.length), (1, .box 1 0), (2, .box 2 0), (4, .box 6 0), (8, .d (.int .i64 g.1))], [(0, some (.pre (List.map (D.int .i64) v1))), (1, some (.box [.d (.sl (List.map iD v2)), .d (.sl (List.map Row.D v3))])), (2, some (.box [.arr 3 0 g.2.2.length])), (3, some (.arr 3 1 (List.map iD g.2.2))), (4, some (.box [.arr 5 0 g.2.1.length])), (5, some (.arr 22 1 (List.map (lD iD) g.2.1))), (6, some (.box [.fn 41 [.box 1 0, .box 2 0, .box 4 0, .box 6 0]]))]⟩) (fun g : Int × List (List Int) × List Int => assembly_All_1_3_l2 rec v2 v3 v1 g.1 g.2.1 g.2.2) _ (fun g y1107 hx ih1013 hr1014 => ?_) (v229, v227, v4) hx
      obtain ⟨v252, v253, v254⟩ := g
      unfold assembly_All_1_3_l2 at hx
      try dsimp only at hx ⊢
      refine Walk.seq (Walk.seq (Walk.region' rfl fun K hK => ?_))
      simp only [go_sem, seval]
      refine hK _ ?_
      clear hK K
      refine Walk.condO rfl hx (fun c1017 hx => ?_) (fun c1017 hx => ?_)
      · refine Walk.skip (Walk.seq (Walk.block (Walk.seq (Walk.region' rfl fun K hK => ?_))))
        obtain ⟨v277, h1018, hx⟩ := bind_elim hx
        have w1019 := ((slices_Clone_int_ok v254 _ h1018).swap 2000 1016)
        simp only [renE, renL, AV.ren, AV.rens, AObj.ren, swp, Option.map_some, reduceIte, Nat.reduceEqDiff] at w1019
        simp only [go_sem, seval, c1017]
        refine VCl.lent rfl (by simp only [go_sem, seval, c1017]; try simp) (w1019) (by simp [c1017]) (by simp [c1017]) (by simp [c1017]) (by simp [c1017]) (by simp [c1017]) (by simp [c1017]) (by simp [c1017]) ?_
        simp only [go_sem, seval, c1017]
        refine hK _ ?_
        clear hK K
        refine Walk.weaken ⟨[(0, .arr 0 0 v1.length), (1, .box 1 0), (2, .box 2 0), (4, .box 6 0), (8, .d (.int .i64 v252)), (9, .arr 1016 0 v277.length)], [(0, some (.pre (List.map (D.int .i64) v1))), (1, some (.box [.d (.sl (List.map iD v2)), .d (.sl (List.map Row.D v3))])), (2, some (.box [.arr 3 0 v254.length])), (3, some (.arr 3 1 (List.map iD v254))), (4, some (.box [.arr 5 0 v253.length])), (5, some (.arr 22 1 (List.map (lD iD) v253))), (6, some (.box [.fn 41 [.box 1 0, .box 2 0, .box 4 0, .box 6 0]])), (1016, some (.arr 3 1 (List.map iD v277)))]⟩ (by simp [c1017] <;> omega) (by simp [c1017] <;> omega) ?_
        refine Walk.seq (Walk.region' rfl fun K hK => ?_)
        obtain ⟨v278, r1020, a1021, b1022, c1023, hx⟩ := rd_elim hx
        simp only [go_sem, seval, c1017, a1021, b1022, c1023]
        repeat refine And.intro (by first | omega | (simp; done) | (simp; omega)) ?_
        refine hK _ ?_
        clear hK K
        refine Walk.weaken ⟨[(0, .arr 0 0 v1.length), (1, .box 1 0), (2, .box 2 0), (4, .box 6 0), (8, .d (.int .i64 v252)), (9, .arr 1016 0 (((v277.set (v252).toNat 1)).length))], [(0, some (.pre (List.map (D.int .i64) v1))), (1, some (.box [.d (.sl (List.map iD v2)), .d (.sl (List.map Row.D v3))])), (2, some (.box [.arr 3 0 v254.length])), (3, some (.arr 3 1 (List.map iD v254))), (4, some (.box [.arr 5 0 v253.length])), (5, some (.arr 22 1 (List.map (lD iD) v253))), (6, some (.box [.fn 41 [.box 1 0, .box 2 0, .box 4 0, .box 6 0]])), (1016, some (.arr 3 1 (List.map iD ((v277.set (v252).toNat 1)))))]⟩ (by simp [c1017, a1021, b1022, c1023] <;> omega) (by simp [c1017, a1021, b1022, c1023] <;> omega) ?_
        refine Walk.seq (Walk.seq (Walk.region' rfl fun K hK => ?_))
        simp only [go_sem, seval, c1017, a1021, b1022, c1023]
        refine hK _ ?_
        clear hK K
        refine Walk.block (Walk.loop ?_)
        refine Walk.weaken ⟨[(0, .arr 0 0 v1.length), (1, .box 1 0), (2, .box 2 0), (4, .box 6 0), (8, .d (.int .i64 v252)), (9, .arr 1016 0 (((v277.set (v252).toNat 1)).length)), (10, .d (.int .i64 ((IntKind.i64.wrap (v252 + 1)))))], [(0, some (.pre (List.map (D.int .i64) v1))), (1, some (.box [.d (.sl (List.map iD v2)), .d (.sl (List.map Row.D v3))])), (2, some (.box [.arr 3 0 v254.length])), (3, some (.arr 3 1 (List.map iD v254))), (4, some (.box [.arr 5 0 v253.length])), (5, some (.arr 22 1 (List.map (lD iD) v253))), (6, some (.box [.fn 41 [.box 1 0, .box 2 0, .box 4 0, .box 6 0]])), (1016, some (.arr 3 1 (List.map iD ((v277.set (v252).toNat 1)))))]⟩ (by simp [c1017, a1021, b1022, c1023] <;> omega) (by simp [c1017, a1021, b1022, c1023] <;> omega) ?_
        refine Walk.iter (σ := Int × List Int) (fun g => ⟨[(0, .arr 0 0 v1.length), (1, .box 1 0), (2, .box 2 0), (4, .box 6 0), (8, .d (.int .i64 v252)), (9, .arr 1016 0 g.2.length), (10, .d (.int .i64 g.1))], [(0, some (.pre (List.map (D.int .i64) v1))), (1, some (.box [.d (.sl (List.map iD v2)), .d (.sl (List.map Row.D v3))])), (2, some (.box [.arr 3 0 v254.length])), (3, some (.arr 3 1 (List.map iD v254))), (4, some (.box [.arr 5 0 v253.length])), (5, some (.arr 22 1 (List.map (lD iD) v253))), (6, some (.box [.fn 41 [.box 1 0, .box 2 0, .box 4 0, .box 6 0]])), (1016, some (.arr 3 1 (List.map iD g.2)))]⟩) (fun g : Int × List Int => assembly_All_1_3_l3 rec v2 v3 v252 v253 v254 v1 g.1 g.2) _ (fun g y1104 hx ih1072 hr1073 => ?_) (IntKind.i64.wrap (v252 + 1), (v277.set (v252).toNat 1)) hx
        obtain ⟨v290, v291⟩ := g
        unfold assembly_All_1_3_l3 at hx
        try dsimp only at hx ⊢
        refine Walk.seq (Walk.seq (Walk.region' rfl fun K hK => ?_))
        simp only [go_sem, seval, c1017, a1021, b1022, c1023]
        refine hK _ ?_
        clear hK K
        refine Walk.condO rfl hx (fun c1074 hx => ?_) (fun c1074 hx => ?_)
        · refine Walk.skip (Walk.seq (Walk.block (Walk.region' rfl fun K hK => ?_)))
          obtain ⟨v293, r1075, a1076, b1077, c1078, hx⟩ := rd_elim hx
          simp only [go_sem, seval, c1017, a1021, b1022, c1023, c1074, a1076, b1077, c1078]
          repeat refine And.intro (by first | omega | (simp; done) | (simp; omega)) ?_
          refine hK _ ?_
          clear hK K
          refine Walk.weaken ⟨[(0, .arr 0 0 v1.length), (1, .box 1 0), (2, .box 2 0), (4, .box 6 0), (8, .d (.int .i64 v252)), (9, .arr 1016 0 (((v291.set (v290).toNat (-1))).length)), (10, .d (.int .i64 v290))], [(0, some (.pre (List.map (D.int .i64) v1))), (1, some (.box [.d (.sl (List.map iD v2)), .d (.sl (List.map Row.D v3))])), (2, some (.box [.arr 3 0 v254.length])), (3, some (.arr 3 1 (List.map iD v254))), (4, some (.box [.arr 5 0 v253.length])), (5, some (.arr 22 1 (List.map (lD iD) v253))), (6, some (.box [.fn 41 [.box 1 0, .box 2 0, .box 4 0, .box 6 0]])), (1016, some (.arr 3 1 (List.map iD ((v291.set (v290).toNat (-1))))))]⟩ (by simp [c1017, a1021, b1022, c1023, c1074, a1076, b1077, c1078] <;> omega) (by simp [c1017, a1021, b1022, c1023, c1074, a1076, b1077, c1078] <;> omega) ?_
          refine Walk.inBlock (Walk.region' rfl fun K hK => ?_)
          simp only [go_sem, seval, c1017, a1021, b1022, c1023, c1074, a1076, b1077, c1078]
          refine hK _ ?_
          clear hK K
          exact Walk.weaken _ (by simp [c1017, a1021, b1022, c1023, c1074, a1076, b1077, c1078] <;> omega) (by simp [c1017, a1021, b1022, c1023, c1074, a1076, b1077, c1078] <;> omega) (ih1072 _ (cont_elim hx))
        refine Walk.exit rfl ?_
        obtain ⟨z1079, e1080, hx⟩ := exit_elim hx
        rw [hr1073 z1079 e1080] at hx
        refine Walk.seq (Walk.seq (Walk.region' rfl fun K hK => ?_))
        obtain ⟨v295, h1083, hx⟩ := bind_elim hx
        simp only [go_sem, seval, c1017, a1021, b1022, c1023, c1074]
        refine VCl.lent rfl (by simp only [go_sem, seval, c1017, a1021, b1022, c1023, c1074]; try simp) (blueprint_Dead_ok v2 v3 v291 _ h1083) (by simp [c1017, a1021, b1022, c1023, c1074]) (by simp [c1017, a1021, b1022, c1023, c1074]) (by simp [c1017, a1021, b1022, c1023, c1074]) (by simp [c1017, a1021, b1022, c1023, c1074]) (by simp [c1017, a1021, b1022, c1023, c1074]) (by simp [c1017, a1021, b1022, c1023, c1074]) (by simp [c1017, a1021, b1022, c1023, c1074]) ?_
        simp only [go_sem, seval, c1017, a1021, b1022, c1023, c1074]
        refine hK _ ?_
        clear hK K
        refine Walk.condO rfl hx (fun c1085 hx => ?_) (fun c1085 hx => ?_)
        · refine Walk.exit rfl (Walk.region' rfl fun K hK => ?_)
          simp only [go_sem, seval, c1017, a1021, b1022, c1023, c1074, c1085]
          refine hK _ ?_
          clear hK K
          exact Walk.weaken _ (by simp [c1017, a1021, b1022, c1023, c1074, c1085] <;> omega) (by simp [c1017, a1021, b1022, c1023, c1074, c1085] <;> omega) (ih1013 _ (cont_elim hx))
        refine Walk.skip (Walk.seq (Walk.region' rfl fun K hK => ?_))
        obtain ⟨v296, r1086, a1087, b1088, c1089, hx⟩ := rd_elim hx
        simp only [go_sem, seval, c1017, a1021, b1022, c1023, c1074, c1085, a1087, b1088, c1089]
        repeat refine And.intro (by first | omega | (simp; done) | (simp; omega)) ?_
        refine hK _ ?_
        clear hK K
        refine Walk.weaken ⟨[(0, .arr 0 0 v1.length), (1, .box 1 0), (2, .box 2 0), (4, .box 6 0), (8, .d (.int .i64 v252))], [(0, some (.pre (List.map (D.int .i64) v1))), (1, some (.box [.d (.sl (List.map iD v2)), .d (.sl (List.map Row.D v3))])), (2, some (.box [.arr 3 0 (((v254.set (v252).toNat 1)).length)])), (3, some (.arr 3 1 (List.map iD ((v254.set (v252).toNat 1))))), (4, some (.box [.arr 5 0 v253.length])), (5, some (.arr 22 1 (List.map (lD iD) v253))), (6, some (.box [.fn 41 [.box 1 0, .box 2 0, .box 4 0, .box 6 0]]))]⟩ (by simp [c1017, a1021, b1022, c1023, c1074, c1085, a1087, b1088, c1089] <;> omega) (by simp [c1017, a1021, b1022, c1023, c1074, c1085, a1087, b1088, c1089] <;> omega) ?_
        refine Walk.seq ?_
        refine Walk.weaken ⟨[(0, .arr 0 0 v1.length), (1, .box 1 0), (2, .box 2 0), (4, .box 6 0), (8, .d (.int .i64 v252))], [(0, some (.pre (List.map (D.int .i64) v1))), (1, some (.box [.d (.sl (List.map iD v2)), .d (.sl (List.map Row.D v3))])), (2, some (.box [.arr 3 0 (((v254.set (v252).toNat 1)).length)])), (3, some (.arr 3 1 (List.map iD ((v254.set (v252).toNat 1))))), (4, some (.box [.arr 5 0 v253.length])), (5, some (.arr 22 1 (List.map (lD iD) v253))), (6, some (.box [.fn 41 [.box 1 0, .box 2 0, .box 4 0, .box 6 0]]))]⟩ (by simp [c1017, a1021, b1022, c1023, c1074, c1085, a1087, b1088, c1089] <;> omega) (by simp [c1017, a1021, b1022, c1023, c1074, c1085, a1087, b1088, c1089] <;> omega) ?_
        refine Walk.openP 0 v1 [(0, some (.box (List.map iA v1))), (1, some (.box [.d (.sl (List.map iD v2)), .d (.sl (List.map Row.D v3))])), (2, some (.box [.arr 3 0 (((v254.set (v252).toNat 1)).length)])), (3, some (.arr 3 1 (List.map iD ((v254.set (v252).toNat 1))))), (4, some (.box [.arr 5 0 v253.length])), (5, some (.arr 22 1 (List.map (lD iD) v253))), (6, some (.box [.fn 41 [.box 1 0, .box 2 0, .box 4 0, .box 6 0]]))] (fun m1090 => [(0, some (.box (List.map iA v1 ++ .any :: List.replicate m1090 .any))), (1, some (.box [.d (.sl (List.map iD v2)), .d (.sl (List.map Row.D v3))])), (2, some (.box [.arr 3 0 (((v254.set (v252).toNat 1)).length)])), (3, some (.arr 3 1 (List.map iD ((v254.set (v252).toNat 1))))), (4, some (.box [.arr 5 0 v253.length])), (5, some (.arr 22 1 (List.map (lD iD) v253))), (6, some (.box [.fn 41 [.box 1 0, .box 2 0, .box 4 0, .box 6 0]]))]) (by simp) (by simp [swH]) (fun m1090 => by simp [swH]) ?_ (fun m1090 => ?_)
        · refine Walk.drawn' rfl mixed fun K hK => ?_
          obtain ⟨k1091, hx⟩ := chk_elim hx
          obtain ⟨v297, h1092, hx⟩ := bind_elim hx
          have w1093 := ((hrec (v1 ++ [v252]) v2 v3 (v254.set (v252).toNat 1) v253 _ h1092).swap 0 71)
          simp only [renE, renL, AV.ren, AV.rens, AObj.ren, swp, Option.map_some, reduceIte, Nat.reduceEqDiff] at w1093
          simp only [go_sem, seval, c1017, a1021, b1022, c1023, c1074, c1085, a1087, b1088, c1089, k1091]
          repeat refine And.intro (by first | omega | (simp; done) | (simp; omega)) ?_
          refine VCl.sub [(71, some (.pre (List.map (D.int .i64) (v1 ++ [v252])))), (1, some (.box [.d (.sl (List.map iD v2)), .d (.sl (List.map Row.D v3))])), (2, some (.box [.arr 3 0 (((v254.set (v252).toNat 1)).length)])), (3, some (.arr 3 1 (List.map iD ((v254.set (v252).toNat 1))))), (4, some (.box [.arr 5 0 v253.length])), (5, some (.arr 22 1 (List.map (lD iD) v253))), (6, some (.box [.fn 41 [.box 1 0, .box 2 0, .box 4 0, .box 6 0]]))] [] rfl (by simp only [go_sem, seval, AV.viewXs, AV.viewX, avD, c1017, a1021, b1022, c1023, c1074, c1085, a1087, b1088, c1089, k1091]; try simp) (w1093) (by simp [c1017, a1021, b1022, c1023, c1074, c1085, a1087, b1088, c1089, k1091]) (by simp [c1017, a1021, b1022, c1023, c1074, c1085, a1087, b1088, c1089, k1091]) (by simp [c1017, a1021, b1022, c1023, c1074, c1085, a1087, b1088, c1089, k1091]) (by simp [c1017, a1021, b1022, c1023, c1074, c1085, a1087, b1088, c1089, k1091]) (by simp [c1017, a1021, b1022, c1023, c1074, c1085, a1087, b1088, c1089, k1091]) (by simp [c1017, a1021, b1022, c1023, c1074, c1085, a1087, b1088, c1089, k1091]) (by simp [c1017, a1021, b1022, c1023, c1074, c1085, a1087, b1088, c1089, k1091]) (by simp [c1017, a1021, b1022, c1023, c1074, c1085, a1087, b1088, c1089, k1091]) (by simp [c1017, a1021, b1022, c1023, c1074, c1085, a1087, b1088, c1089, k1091]) (by simp [c1017, a1021, b1022, c1023, c1074, c1085, a1087, b1088, c1089, k1091]) ?_
          simp only [go_sem, seval, c1017, a1021, b1022, c1023, c1074, c1085, a1087, b1088, c1089, k1091]
          refine hK _ _ (by kernel_rfl) (by simp [c1017, a1021, b1022, c1023, c1074, c1085, a1087, b1088, c1089, k1091]) ?_
          clear hK K
          refine Walk.weaken ⟨[(0, .arr 0 0 v1.length), (1, .box 1 0), (2, .box 2 0), (4, .box 6 0), (8, .d (.int .i64 v252))], [(0, some (.box (List.map iA v1))), (1, some (.box [.d (.sl (List.map iD v2)), .d (.sl (List.map Row.D v3))])), (2, some (.box [.arr 3 0 v297.2.length])), (3, some (.arr 3 1 (List.map iD v297.2))), (4, some (.box [.arr 5 0 v297.1.length])), (5, some (.arr 22 1 (List.map (lD iD) v297.1))), (6, some (.box [.fn 41 [.box 1 0, .box 2 0, .box 4 0, .box 6 0]]))]⟩ (by simp [c1017, a1021, b1022, c1023, c1074, c1085, a1087, b1088, c1089, k1091] <;> omega) (by simp [c1017, a1021, b1022, c1023, c1074, c1085, a1087, b1088, c1089, k1091] <;> omega) ?_
          refine Walk.weaken ⟨[(0, .arr 0 0 v1.length), (1, .box 1 0), (2, .box 2 0), (4, .box 6 0), (8, .d (.int .i64 v252))], [(0, some (.box (List.map iA v1))), (1, some (.box [.d (.sl (List.map iD v2)), .d (.sl (List.map Row.D v3))])), (2, some (.box [.arr 3 0 v297.2.length])), (3, some (.arr 3 1 (List.map iD v297.2))), (4, some (.box [.arr 5 0 v297.1.length])), (5, some (.arr 22 1 (List.map (lD iD) v297.1))), (6, some (.box [.fn 41 [.box 1 0, .box 2 0, .box 4 0, .box 6 0]]))]⟩ (by simp [c1017, a1021, b1022, c1023, c1074, c1085, a1087, b1088, c1089, k1091] <;> omega) (by simp [c1017, a1021, b1022, c1023, c1074, c1085, a1087, b1088, c1089, k1091] <;> omega) ?_
          refine Walk.boxPre 0 v1 [(0, some (.pre (List.map (D.int .i64) v1))), (1, some (.box [.d (.sl (List.map iD v2)), .d (.sl (List.map Row.D v3))])), (2, some (.box [.arr 3 0 v297.2.length])), (3, some (.arr 3 1 (List.map iD v297.2))), (4, some (.box [.arr 5 0 v297.1.length])), (5, some (.arr 22 1 (List.map (lD iD) v297.1))), (6, some (.box [.fn 41 [.box 1 0, .box 2 0, .box 4 0, .box 6 0]]))] (by simp) (by simp [swH]) ?_
          refine Walk.region' rfl fun K hK => ?_
          obtain ⟨v298, r1094, a1095, b1096, c1097, hx⟩ := rd_elim hx
          simp only [go_sem, seval, c1017, a1021, b1022, c1023, c1074, c1085, a1087, b1088, c1089, k1091, a1095, b1096, c1097]
          repeat refine And.intro (by first | omega | (simp; done) | (simp; omega)) ?_
          refine hK _ ?_
          clear hK K
          refine Walk.weaken ⟨[(0, .arr 0 0 v1.length), (1, .box 1 0), (2, .box 2 0), (4, .box 6 0), (8, .d (.int .i64 v252))], [(0, some (.pre (List.map (D.int .i64) v1))), (1, some (.box [.d (.sl (List.map iD v2)), .d (.sl (List.map Row.D v3))])), (2, some (.box [.arr 3 0 (((v297.2.set (v252).toNat 0)).length)])), (3, some (.arr 3 1 (List.map iD ((v297.2.set (v252).toNat 0))))), (4, some (.box [.arr 5 0 v297.1.length])), (5, some (.arr 22 1 (List.map (lD iD) v297.1))), (6, some (.box [.fn 41 [.box 1 0, .box 2 0, .box 4 0, .box 6 0]]))]⟩ (by simp [c1017, a1021, b1022, c1023, c1074, c1085, a1087, b1088, c1089, k1091, a1095, b1096, c1097] <;> omega) (by simp [c1017, a1021, b1022, c1023, c1074, c1085, a1087, b1088, c1089, k1091, a1095, b1096, c1097] <;> omega) ?_
          refine Walk.inBlock (Walk.region' rfl fun K hK => ?_)
          simp only [go_sem, seval, c1017, a1021, b1022, c1023, c1074, c1085, a1087, b1088, c1089, k1091, a1095, b1096, c1097]
          refine hK _ ?_
          clear hK K
          exact Walk.weaken _ (by simp [c1017, a1021, b1022, c1023, c1074, c1085, a1087, b1088, c1089, k1091, a1095, b1096, c1097] <;> omega) (by simp [c1017, a1021, b1022, c1023, c1074, c1085, a1087, b1088, c1089, k1091, a1095, b1096, c1097] <;> omega) (ih1013 _ (cont_elim hx))
        refine Walk.drawn' rfl mixed fun K hK => ?_
        obtain ⟨k1098, hx⟩ := chk_elim hx
        obtain ⟨v297, h1099, hx⟩ := bind_elim hx
        simp only [go_sem, seval, c1017, a1021, b1022, c1023, c1074, c1085, a1087, b1088, c1089, k1098]
        repeat refine And.intro (by first | omega | (simp; done) | (simp; omega)) ?_
        refine VCl.sub [(0, some (.pre (List.map (D.int .i64) (v1 ++ [v252])))), (1, some (.box [.d (.sl (List.map iD v2)), .d (.sl (List.map Row.D v3))])), (2, some (.box [.arr 3 0 (((v254.set (v252).toNat 1)).length)])), (3, some (.arr 3 1 (List.map iD ((v254.set (v252).toNat 1))))), (4, some (.box [.arr 5 0 v253.length])), (5, some (.arr 22 1 (List.map (lD iD) v253))), (6, some (.box [.fn 41 [.box 1 0, .box 2 0, .box 4 0, .box 6 0]]))] [] rfl (by simp only [go_sem, seval, AV.viewXs, AV.viewX, avD, c1017, a1021, b1022, c1023, c1074, c1085, a1087, b1088, c1089, k1098]; try simp) (hrec (v1 ++ [v252]) v2 v3 (v254.set (v252).toNat 1) v253 _ h1099) (by simp [c1017, a1021, b1022, c1023, c1074, c1085, a1087, b1088, c1089, k1098]) (by simp [c1017, a1021, b1022, c1023, c1074, c1085, a1087, b1088, c1089, k1098]) (by simp [c1017, a1021, b1022, c1023, c1074, c1085, a1087, b1088, c1089, k1098]) (by simp [c1017, a1021, b1022, c1023, c1074, c1085, a1087, b1088, c1089, k1098]) (by simp [c1017, a1021, b1022, c1023, c1074, c1085, a1087, b1088, c1089, k1098]) (by simp [c1017, a1021, b1022, c1023, c1074, c1085, a1087, b1088, c1089, k1098]) (by simp [c1017, a1021, b1022, c1023, c1074, c1085, a1087, b1088, c1089, k1098]) (by simp [c1017, a1021, b1022, c1023, c1074, c1085, a1087, b1088, c1089, k1098]) (by simp [c1017, a1021, b1022, c1023, c1074, c1085, a1087, b1088, c1089, k1098]) (by simp [c1017, a1021, b1022, c1023, c1074, c1085, a1087, b1088, c1089, k1098]) ?_
        simp only [go_sem, seval, c1017, a1021, b1022, c1023, c1074, c1085, a1087, b1088, c1089, k1098]
        refine hK _ _ (by kernel_rfl) (by simp [c1017, a1021, b1022, c1023, c1074, c1085, a1087, b1088, c1089, k1098]) ?_
        clear hK K
        refine Walk.weaken ⟨[(0, .arr 0 0 v1.length), (1, .box 1 0), (2, .box 2 0), (4, .box 6 0), (8, .d (.int .i64 v252))], [(0, some (.pre (List.map (D.int .i64) (v1 ++ [v252])))), (1, some (.box [.d (.sl (List.map iD v2)), .d (.sl (List.map Row.D v3))])), (2, some (.box [.arr 3 0 v297.2.length])), (3, some (.arr 3 1 (List.map iD v297.2))), (4, some (.box [.arr 5 0 v297.1.length])), (5, some (.arr 22 1 (List.map (lD iD) v297.1))), (6, some (.box [.fn 41 [.box 1 0, .box 2 0, .box 4 0, .box 6 0]]))]⟩ (by simp [c1017, a1021, b1022, c1023, c1074, c1085, a1087, b1088, c1089, k1098] <;> omega) (by simp [c1017, a1021, b1022, c1023, c1074, c1085, a1087, b1088, c1089, k1098] <;> omega) ?_
        refine Walk.weaken ⟨[(0, .arr 0 0 v1.length), (1, .box 1 0), (2, .box 2 0), (4, .box 6 0), (8, .d (.int .i64 v252))], [(0, some (.pre (List.map (D.int .i64) (v1 ++ [v252])))), (1, some (.box [.d (.sl (List.map iD v2)), .d (.sl (List.map Row.D v3))])), (2, some (.box [.arr 3 0 v297.2.length])), (3, some (.arr 3 1 (List.map iD v297.2))), (4, some (.box [.arr 5 0 v297.1.length])), (5, some (.arr 22 1 (List.map (lD iD) v297.1))), (6, some (.box [.fn 41 [.box 1 0, .box 2 0, .box 4 0, .box 6 0]]))]⟩ (by simp [c1017, a1021, b1022, c1023, c1074, c1085, a1087, b1088, c1089, k1098] <;> omega) (by simp [c1017, a1021, b1022, c1023, c1074, c1085, a1087, b1088, c1089, k1098] <;> omega) ?_
        refine Walk.shrink 0 (List.map (D.int .i64) v1) (List.map (D.int .i64) [v252]) [(0, some (.pre (List.map (D.int .i64) v1))), (1, some (.box [.d (.sl (List.map iD v2)), .d (.sl (List.map Row.D v3))])), (2, some (.box [.arr 3 0 v297.2.length])), (3, some (.arr 3 1 (List.map iD v297.2))), (4, some (.box [.arr 5 0 v297.1.length])), (5, some (.arr 22 1 (List.map (lD iD) v297.1))), (6, some (.box [.fn 41 [.box 1 0, .box 2 0, .box 4 0, .box 6 0]]))] (by simp) (by simp [swH]) ?_
        try dsimp only
        refine Walk.region' rfl fun K hK => ?_
        obtain ⟨v298, r1100, a1101, b1102, c1103, hx⟩ := rd_elim hx
        simp only [go_sem, seval, c1017, a1021, b1022, c1023, c1074, c1085, a1087, b1088, c1089, k1098, a1101, b1102, c1103]
        repeat refine And.intro (by first | omega | (simp; done) | (simp; omega)) ?_
        refine hK _ ?_
        clear hK K
        refine Walk.weaken ⟨[(0, .arr 0 0 v1.length), (1, .box 1 0), (2, .box 2 0), (4, .box 6 0), (8, .d (.int .i64 v252))], [(0, some (.pre (List.map (D.int .i64) v1))), (1, some (.box [.d (.sl (List.map iD v2)), .d (.sl (List.map Row.D v3))])), (2, some (.box [.arr 3 0 (((v297.2.set (v252).toNat 0)).length)])), (3, some (.arr 3 1 (List.map iD ((v297.2.set (v252).toNat 0))))), (4, some (.box [.arr 5 0 v297.1.length])), (5, some (.arr 22 1 (List.map (lD iD) v297.1))), (6, some (.box [.fn 41 [.box 1 0, .box 2 0, .box 4 0, .box 6 0]]))]⟩ (by simp [c1017, a1021, b1022, c1023, c1074, c1085, a1087, b1088, c1089, k1098, a1101, b1102, c1103] <;> omega) (by simp [c1017, a1021, b1022, c1023, c1074, c1085, a1087, b1088, c1089, k1098, a1101, b1102, c1103] <;> omega) ?_
        refine Walk.inBlock (Walk.region' rfl fun K hK => ?_)
        simp only [go_sem, seval, c1017, a1021, b1022, c1023, c1074, c1085, a1087, b1088, c1089, k1098, a1101, b1102, c1103]
        refine hK _ ?_
        clear hK K
        exact Walk.weaken _ (by simp [c1017, a1021, b1022, c1023, c1074, c1085, a1087, b1088, c1089, k1098, a1101, b1102, c1103] <;> omega) (by simp [c1017, a1021, b1022, c1023, c1074, c1085, a1087, b1088, c1089, k1098, a1101, b1102, c1103] <;> omega) (ih1013 _ (cont_elim hx))
      refine Walk.exit rfl ?_
      obtain ⟨z1105, e1106, hx⟩ := exit_elim hx
      rw [hr1014 z1105 e1106] at hx
      refine Walk.inScope ?_
      obtain rfl := Option.some.inj hx
      exact Walk.weaken _ (by simp [c1017] <;> omega) (by simp [c1017] <;> omega) (Walk.done rfl)
    refine Walk.seq (Walk.region' rfl fun K hK => ?_)
    simp only [go_sem, seval]
    refine hK _ ?_
    clear hK K
    refine Walk.seq (Walk.region' rfl fun K hK => ?_)
    simp only [go_sem, seval]
    refine hK _ ?_
    clear hK K
    refine Walk.condO rfl hx (fun c1108 hx => ?_) (fun c1108 hx => ?_)
    · refine Walk.region' rfl fun K hK => ?_
      obtain ⟨v299, r1109, a1110, b1111, c1112, q1113, d1114, e1115, hx⟩ := rdA_elim hx
      simp only [go_sem, seval, c1108, a1110, b1111, c1112, q1113, d1114, e1115]
      repeat refine And.intro (by first | omega | (simp; done) | (simp; omega)) ?_
      refine hK _ ?_
      clear hK K
      exact Walk.weaken _ (by simp [c1108, a1110, b1111, c1112, q1113, d1114, e1115] <;> omega) (by simp [c1108, a1110, b1111, c1112, q1113, d1114, e1115] <;> omega) (fin834 (IntKind.i64.wrap (v299 + 1)) hx)
    refine Walk.skip ?_
    exact Walk.weaken _ (by simp [c1108] <;> omega) (by simp [c1108] <;> omega) (fin834 0 hx)
  refine Walk.seq (Walk.region' rfl fun K hK => ?_)
  obtain ⟨v300, h1116, hx⟩ := bind_elim hx
  simp only [go_sem, seval]
  refine VCl.lent rfl (by simp only [go_sem, seval]; try simp) (blueprint_Dead_ok v2 v3 v4 _ h1116) (by simp) (by simp) (by simp) (by simp) (by simp) (by simp) (by simp) ?_
  simp only [go_sem, seval]
  refine hK _ ?_
  clear hK K
  refine Walk.condO rfl hx (fun c1117 hx => ?_) (fun c1117 hx => ?_)
  · refine Walk.drawn' rfl mixed fun K hK => ?_
    obtain ⟨v301, h1118, hx⟩ := bind_elim hx
    have w1119 := ((slices_Clone_int_ok v1 _ h1118).swap 2000 1017)
    simp only [renE, renL, AV.ren, AV.rens, AObj.ren, swp, Option.map_some, reduceIte, Nat.reduceEqDiff] at w1119
    simp only [go_sem, seval, c1117]
    refine VCl.lent rfl (by simp only [go_sem, seval, c1117]; try simp) (w1119) (by simp [c1117]) (by simp [c1117]) (by simp [c1117]) (by simp [c1117]) (by simp [c1117]) (by simp [c1117]) (by simp [c1117]) ?_
    obtain ⟨k1120, hx⟩ := chk_elim hx
    simp only [go_sem, seval, c1117, k1120]
    repeat refine And.intro (by first | omega | (simp; done) | (simp; omega)) ?_
    refine hK _ _ (by kernel_rfl) (by simp [c1117, k1120]) ?_
    clear hK K
    refine Walk.weaken ⟨[(0, .arr 0 0 v1.length), (1, .box 1 0), (2, .box 2 0), (4, .box 6 0)], [(0, some (.pre (List.map (D.int .i64) v1))), (1, some (.box [.d (.sl (List.map iD v2)), .d (.sl (List.map Row.D v3))])), (2, some (.box [.arr 3 0 v4.length])), (3, some (.arr 3 1 (List.map iD v4))), (4, some (.box [.arr 5 0 ((v5 ++ [v301]).length)])), (5, some (.arr 22 1 (List.map (lD iD) (v5 ++ [v301])))), (6, some (.box [.fn 41 [.box 1 0, .box 2 0, .box 4 0, .box 6 0]]))]⟩ (by simp [c1117, k1120] <;> omega) (by simp [c1117, k1120] <;> omega) ?_
    exact Walk.weaken _ (by simp [c1117, k1120] <;> omega) (by simp [c1117, k1120] <;> omega) (fin825 (v5 ++ [v301]) hx)
  refine Walk.skip ?_
  exact Walk.weaken _ (by simp [c1117] <;> omega) (by simp [c1117] <;> omega) (fin825 v5 hx)
theorem assembly_All_1_3_l3_mono {rec rec' : (List Int) → (List Int) → (List Row) → (List Int) → (List (List Int)) → Option (List (List Int) × List Int)} (h : ∀ (v1 : List Int) (v2 : List Int) (v3 : List Row) (v4 : List Int) (v5 : List (List Int)), Ole (rec v1 v2 v3 v4 v5) (rec' v1 v2 v3 v4 v5)) (v2 : List Int) (v3 : List Row) (v252 : Int) (v253 : List (List Int)) (v254 : List Int) (v1 : List Int) (v290 : Int) (v291 : List Int) : Ole (assembly_All_1_3_l3 rec v2 v3 v252 v253 v254 v1 v290 v291) (assembly_All_1_3_l3 rec' v2 v3 v252 v253 v254 v1 v290 v291) := by
  unfold assembly_All_1_3_l3
  repeat (first | with_reducible exact Ole.refl _ | exact h _ _ _ _ _ | refine Ole.bind ?_ fun _ => ?_ | refine Ole.bif ?_ ?_ | refine Ole.chk ?_ | refine Ole.exit ?_ | refine Ole.iter fun _ => ?_)
theorem assembly_All_1_3_l2_mono {rec rec' : (List Int) → (List Int) → (List Row) → (List Int) → (List (List Int)) → Option (List (List Int) × List Int)} (h : ∀ (v1 : List Int) (v2 : List Int) (v3 : List Row) (v4 : List Int) (v5 : List (List Int)), Ole (rec v1 v2 v3 v4 v5) (rec' v1 v2 v3 v4 v5)) (v2 : List Int) (v3 : List Row) (v1 : List Int) (v252 : Int) (v253 : List (List Int)) (v254 : List Int) : Ole (assembly_All_1_3_l2 rec v2 v3 v1 v252 v253 v254) (assembly_All_1_3_l2 rec' v2 v3 v1 v252 v253 v254) := by
  unfold assembly_All_1_3_l2
  repeat (first | with_reducible exact Ole.refl _ | exact h _ _ _ _ _ | exact assembly_All_1_3_l3_mono h _ _ _ _ _ _ _ _ | refine Ole.bind ?_ fun _ => ?_ | refine Ole.bif ?_ ?_ | refine Ole.chk ?_ | refine Ole.exit ?_ | refine Ole.iter fun _ => ?_)
theorem assembly_All_1_3_j1_mono {rec rec' : (List Int) → (List Int) → (List Row) → (List Int) → (List (List Int)) → Option (List (List Int) × List Int)} (h : ∀ (v1 : List Int) (v2 : List Int) (v3 : List Row) (v4 : List Int) (v5 : List (List Int)), Ole (rec v1 v2 v3 v4 v5) (rec' v1 v2 v3 v4 v5)) (v2 : List Int) (v3 : List Row) (v1 : List Int) (v227 : List (List Int)) (v4 : List Int) (v229 : Int) : Ole (assembly_All_1_3_j1 rec v2 v3 v1 v227 v4 v229) (assembly_All_1_3_j1 rec' v2 v3 v1 v227 v4 v229) := by
  unfold assembly_All_1_3_j1
  repeat (first | with_reducible exact Ole.refl _ | exact h _ _ _ _ _ | exact assembly_All_1_3_l3_mono h _ _ _ _ _ _ _ _ | exact assembly_All_1_3_l2_mono h _ _ _ _ _ _ | refine Ole.bind ?_ fun _ => ?_ | refine Ole.bif ?_ ?_ | refine Ole.chk ?_ | refine Ole.exit ?_ | refine Ole.iter fun _ => ?_)
theorem assembly_All_1_3_j0_mono {rec rec' : (List Int) → (List Int) → (List Row) → (List Int) → (List (List Int)) → Option (List (List Int) × List Int)} (h : ∀ (v1 : List Int) (v2 : List Int) (v3 : List Row) (v4 : List Int) (v5 : List (List Int)), Ole (rec v1 v2 v3 v4 v5) (rec' v1 v2 v3 v4 v5)) (v1 : List Int) (v2 : List Int) (v3 : List Row) (v4 : List Int) (v227 : List (List Int)) : Ole (assembly_All_1_3_j0 rec v1 v2 v3 v4 v227) (assembly_All_1_3_j0 rec' v1 v2 v3 v4 v227) := by
  unfold assembly_All_1_3_j0
  repeat (first | with_reducible exact Ole.refl _ | exact h _ _ _ _ _ | exact assembly_All_1_3_l3_mono h _ _ _ _ _ _ _ _ | exact assembly_All_1_3_l2_mono h _ _ _ _ _ _ | exact assembly_All_1_3_j1_mono h _ _ _ _ _ _ | refine Ole.bind ?_ fun _ => ?_ | refine Ole.bif ?_ ?_ | refine Ole.chk ?_ | refine Ole.exit ?_ | refine Ole.iter fun _ => ?_)
theorem assembly_All_1_3_F_mono {rec rec' : (List Int) → (List Int) → (List Row) → (List Int) → (List (List Int)) → Option (List (List Int) × List Int)} (h : ∀ (v1 : List Int) (v2 : List Int) (v3 : List Row) (v4 : List Int) (v5 : List (List Int)), Ole (rec v1 v2 v3 v4 v5) (rec' v1 v2 v3 v4 v5)) (v1 : List Int) (v2 : List Int) (v3 : List Row) (v4 : List Int) (v5 : List (List Int)) : Ole (assembly_All_1_3_F rec v1 v2 v3 v4 v5) (assembly_All_1_3_F rec' v1 v2 v3 v4 v5) := by
  unfold assembly_All_1_3_F
  repeat (first | with_reducible exact Ole.refl _ | exact h _ _ _ _ _ | exact assembly_All_1_3_l3_mono h _ _ _ _ _ _ _ _ | exact assembly_All_1_3_l2_mono h _ _ _ _ _ _ | exact assembly_All_1_3_j1_mono h _ _ _ _ _ _ | exact assembly_All_1_3_j0_mono h _ _ _ _ _ | refine Ole.bind ?_ fun _ => ?_ | refine Ole.bif ?_ ?_ | refine Ole.chk ?_ | refine Ole.exit ?_ | refine Ole.iter fun _ => ?_)
noncomputable def assembly_All_1_3_n : Nat → (List Int) → (List Int) → (List Row) → (List Int) → (List (List Int)) → Option (List (List Int) × List Int)
  | 0 => fun _ _ _ _ _ => none
  | k + 1 => assembly_All_1_3_F (assembly_All_1_3_n k)
theorem assembly_All_1_3_n_ok : ∀ (k : Nat) (v1 : List Int) (v2 : List Int) (v3 : List Row) (v4 : List Int) (v5 : List (List Int)) (r : List (List Int) × List Int), assembly_All_1_3_n k v1 v2 v3 v4 v5 = some r → ACalls Try.prog 41 [.arr 0 0 v1.length, .box 1 0, .box 2 0, .box 4 0, .box 6 0] [(0, some (.pre (List.map (D.int .i64) v1))), (1, some (.box [.d (.sl (List.map iD v2)), .d (.sl (List.map Row.D v3))])), (2, some (.box [.arr 3 0 v4.length])), (3, some (.arr 3 1 (List.map iD v4))), (4, some (.box [.arr 5 0 v5.length])), (5, some (.arr 22 1 (List.map (lD iD) v5))), (6, some (.box [.fn 41 [.box 1 0, .box 2 0, .box 4 0, .box 6 0]]))] (.tup []) [(0, some (.pre (List.map (D.int .i64) v1))), (1, some (.box [.d (.sl (List.map iD v2)), .d (.sl (List.map Row.D v3))])), (2, some (.box [.arr 3 0 r.2.length])), (3, some (.arr 3 1 (List.map iD r.2))), (4, some (.box [.arr 5 0 r.1.length])), (5, some (.arr 22 1 (List.map (lD iD) r.1))), (6, some (.box [.fn 41 [.box 1 0, .box 2 0, .box 4 0, .box 6 0]]))]
  | 0, _, _, _, _, _, _, h => by simp [assembly_All_1_3_n] at h
  | k + 1, v1, v2, v3, v4, v5, r, h => assembly_All_1_3_F_ok (assembly_All_1_3_n k) (assembly_All_1_3_n_ok k) v1 v2 v3 v4 v5 r h
theorem assembly_All_1_3_n_mono : ∀ (k : Nat) (v1 : List Int) (v2 : List Int) (v3 : List Row) (v4 : List Int) (v5 : List (List Int)), Ole (assembly_All_1_3_n k v1 v2 v3 v4 v5) (assembly_All_1_3_n (k + 1) v1 v2 v3 v4 v5)
  | 0, _, _, _, _, _ => fun r h => by simp [assembly_All_1_3_n] at h
  | k + 1, v1, v2, v3, v4, v5 => assembly_All_1_3_F_mono (assembly_All_1_3_n_mono k) v1 v2 v3 v4 v5
noncomputable def assembly_All_1_3 (v1 : List Int) (v2 : List Int) (v3 : List Row) (v4 : List Int) (v5 : List (List Int)) : Option (List (List Int) × List Int) := fixO fun k => assembly_All_1_3_n k v1 v2 v3 v4 v5
theorem assembly_All_1_3_ok (v1 : List Int) (v2 : List Int) (v3 : List Row) (v4 : List Int) (v5 : List (List Int)) (r : List (List Int) × List Int) (hx : assembly_All_1_3 v1 v2 v3 v4 v5 = some r) : ACalls Try.prog 41 [.arr 0 0 v1.length, .box 1 0, .box 2 0, .box 4 0, .box 6 0] [(0, some (.pre (List.map (D.int .i64) v1))), (1, some (.box [.d (.sl (List.map iD v2)), .d (.sl (List.map Row.D v3))])), (2, some (.box [.arr 3 0 v4.length])), (3, some (.arr 3 1 (List.map iD v4))), (4, some (.box [.arr 5 0 v5.length])), (5, some (.arr 22 1 (List.map (lD iD) v5))), (6, some (.box [.fn 41 [.box 1 0, .box 2 0, .box 4 0, .box 6 0]]))] (.tup []) [(0, some (.pre (List.map (D.int .i64) v1))), (1, some (.box [.d (.sl (List.map iD v2)), .d (.sl (List.map Row.D v3))])), (2, some (.box [.arr 3 0 r.2.length])), (3, some (.arr 3 1 (List.map iD r.2))), (4, some (.box [.arr 5 0 r.1.length])), (5, some (.arr 22 1 (List.map (lD iD) r.1))), (6, some (.box [.fn 41 [.box 1 0, .box 2 0, .box 4 0, .box 6 0]]))] := by
  obtain ⟨k, hk⟩ := fixO_some hx
  exact assembly_All_1_3_n_ok k v1 v2 v3 v4 v5 r hk
theorem assembly_All_1_3_eq (k : Nat) (v1 : List Int) (v2 : List Int) (v3 : List Row) (v4 : List Int) (v5 : List (List Int)) (r : List (List Int) × List Int) (hk : assembly_All_1_3_n k v1 v2 v3 v4 v5 = some r) : assembly_All_1_3 v1 v2 v3 v4 v5 = some r := fixO_eq (fun k => assembly_All_1_3_n_mono k v1 v2 v3 v4 v5) hk
end Go.AX

