import Derived.Test.YtmggphnhfegffaaE1
set_option linter.unusedVariables false
set_option linter.unusedSimpArgs false
set_option maxRecDepth 20000
set_option maxHeartbeats 4000000
namespace Go.AX
open Go.Proofs
attribute [local simp] take_map_len subE subH eget hget upE upV upH upO_refl upO_box upVs freshE freshH freshO AV.ids AV.idsL ids_box ids_arr frE frV_refl frV_arr frH frO_refl frO_box frVs newOk evalA AV.viewXs AV.viewX AV.viewXP AV.viewXPs AV.viewPs AV.viewP AV.flat AV.flatL D.flat arrsOnly flatObjs newNames subOf closedIn allSome dstOk newOrOld avD avDp zv_i64 zv_u8 zv_bool zv_nils zv_nilp zv_str retAV aLoad cut TI.isAgg nlE nlH nlO_refl nlO_box nlVs nlV_refl nlV_nil iD uD bD tD lD List.map_set ti2 ti3 ti4 ti5 ti6 ti7 ti8 ti9 ti10 ti11 ti12 ti13 ti14 ti15 ti16 ti17 ti18 ti19 ti21 ti22 ti23 ti25 ti26 ti27 ti31 ti32 ti41 ti51 ti52 ti53 ti54 ti56 ti58 ti60 ti61 ti62 ti67 ti68 ti71 ti72 ti79 ti80 ti81 ti82 ti83 ti84 ti85 ti89 ti93 ti94 ti95 ti110 ti124 ti125 ti126 ti127 ti128 ti129 ti130 ti131 ti133 ti134 ti135 ti136 ti137 Row.D TRange.D Ref.D Form.D Part.D TItem.D
attribute [local go_sem] V1_none V1_some V_nil V_move V_assign V_pick V_bin V_un V_extract V_makeFunc V_convert V_nilCheck V_fieldAddr V_field V_load V_store V_indexAddr V_index V_slice V_slice0 V_alloc V_box V_build V_buildSlice V_makeSlice V_len V_min V_max V_append V_call V_guard VGs_some VG_tt VG_ff VG_tf VG_ft VG_u gslot ok fail po so aNew dstOk freshU addLog_none' addLog_some' St.step putL evalA eget hget argE freshE freshO freshH AV.ids AV.idsL AV.ok1 AV.cells ids_box ids_arr liveBox liveArr isArr aPick aBin aUn aExtract aMakeFunc aConvert aNilCheck aFieldAddr aField cut aLen aIndexAddr aMin aMax aIndex bnd isInt aSlice aSlice0 aLoad aAlloc aBox aStore splice aMake updIds newIds zv_i64 zv_u8 zv_bool zv_nils zv_nilp cond_bool cond_int TI.isAgg TK.isSl TK.el okL avDps avDp avD List.map_cons List.map_nil List.append_nil List.nil_append List.cons_append List.length_cons List.length_nil List.take_succ_cons List.take_zero List.drop_succ_cons List.drop_zero List.take_nil List.drop_nil List.headD_cons List.getD_cons_zero List.getD_cons_succ List.mem_cons List.not_mem_nil List.getElem?_cons_zero List.getElem?_cons_succ List.toList_toArray Option.getD_some Option.getD_none Option.bind_some Option.bind_none Option.map_some Option.map_none Option.getD Option.toList Nat.zero_add Nat.add_zero Nat.zero_le Nat.le_refl if_true if_false ite_self true_and and_true false_and and_false true_or or_true false_or or_false not_true_eq_false not_false_eq_true ne_eq cond_true cond_false Bool.true_eq_false Bool.false_eq_true forall_const decide_true decide_false implies_true true_implies and_self or_self Nat.succ_ne_zero Int.toNat_natCast Int.natCast_nonneg List.length_map decide_eq_true_eq AV.views AV.view AV.viewPs AV.viewP arrsOnly newNames List.length_append List.append_assoc Bool.not_true Bool.not_false AV.ok2 aBuild fillR fillP aBuildSlice dense elP aAppend esOf esOfP List.forall_mem_cons forall_eq_or_imp forall_eq zD zDp map_take' map_drop' iD uD bD tD lD iD_len uD_len bD_len tD_len lD_len LB Int.cast_ofNat_Int Int.natCast_zero Int.natCast_one head_len all_len List.head?_cons List.head?_nil Bool.not_not eq_self List.take_length zv_str aConv byteOf isByte map_bcell bytes_all str_map cellsEq cellsP AV.kd Bool.and_true Bool.true_and Bool.and_false Bool.false_and ti2 ti3 ti4 ti5 ti6 ti7 ti8 ti9 ti10 ti11 ti12 ti13 ti14 ti15 ti16 ti17 ti18 ti19 ti21 ti22 ti23 ti25 ti26 ti27 ti31 ti32 ti41 ti51 ti52 ti53 ti54 ti56 ti58 ti60 ti61 ti62 ti67 ti68 ti71 ti72 ti79 ti80 ti81 ti82 ti83 ti84 ti85 ti89 ti93 ti94 ti95 ti110 ti124 ti125 ti126 ti127 ti128 ti129 ti130 ti131 ti133 ti134 ti135 ti136 ti137 Row.D TRange.D Ref.D Form.D Part.D TItem.D Row.D_len TRange.D_len Ref.D_len Form.D_len Part.D_len TItem.D_len zs_ zs_48_49_50_51_52_53_54_55_56_57_48_49_50_51_52_53_54_55_56_57_48_49_50_51_52_53_54_55_56_57_48_49_50_51_52_53_54_55_56_57_120 zs_113 zs_116_97_98_9 eqf85_00
noncomputable def blueprint_in_1 (v1 : Int) (v2 : Int) : Option (Bool) :=
  bif decide (v1 < 0) then (some (true : Bool)) else (some (decide (v1 > v2) : Bool))
theorem blueprint_in_1_ok (v1 : Int) (v2 : Int) (r : Bool) (hx : blueprint_in_1 v1 v2 = some r) :
    ACalls Try.prog 90 [.d (.int .i64 v1), .box 0 0] [(0, some (.box [.d (.int .i64 v2)]))] (.d (.bool r)) [(0, some (.box [.d (.int .i64 v2)]))] := by
  refine ACalls.of_sem (n := 11) 1 [3] (fn := Try.f90) Try.func90 rfl rfl (.one rfl) rfl (by simp) (by intro i; simp only [hget]; (repeat' split) <;> simp <;> omega) ?_
  unfold blueprint_in_1 at hx
  refine Walk.seq (Walk.region' rfl fun K hK => ?_)
  simp only [go_sem, seval]
  refine hK _ ?_
  clear hK K
  refine Walk.seq (Walk.region' rfl fun K hK => ?_)
  simp only [go_sem, seval]
  refine VGdO hx (fun g2 hx => ?_) (fun g2 hx => ?_)
  · simp only [go_sem, seval, g2]
    refine hK _ ?_
    clear hK K
    obtain rfl := Option.some.inj hx
    exact Walk.ret ⟨by simp [g2], by simp [g2]⟩
  simp only [go_sem, seval, g2]
  refine hK _ ?_
  clear hK K
  obtain rfl := Option.some.inj hx
  exact Walk.ret ⟨by simp [g2], by simp [g2]⟩
noncomputable def slices_IndexFunc_int__in_1_l0 (v1 : List Int) (v2 : Int) (v13 : Int) : Option ((Int) ⊕ (Int)) :=
  bif decide (v13 < (v1.length : Int)) then ((rd v1 v13).bind fun v16 => (blueprint_in_1 v16 v2).bind fun v17 => bif v17 then (exitO (some (v13 : Int))) else (contO (IntKind.i64.wrap (v13 + 1) : Int))) else (exitO (some (-1 : Int)))
noncomputable def slices_IndexFunc_int__in_1 (v1 : List Int) (v2 : Int) : Option (Int) :=
  iter (fun g : Int => slices_IndexFunc_int__in_1_l0 v1 v2 g) 0
theorem slices_IndexFunc_int__in_1_ok (v1 : List Int) (v2 : Int) (r : Int) (hx : slices_IndexFunc_int__in_1 v1 v2 = some r) :
    ACalls Try.prog 106 [.d (.sl (List.map iD v1)), .fn 90 [.box 0 0]] [(0, some (.box [.d (.int .i64 v2)]))] (.d (.int .i64 r)) [(0, some (.box [.d (.int .i64 v2)]))] := by
  refine ACalls.of_sem (n := 19) 1 [4] (fn := Try.f106) Try.func106 rfl rfl (.one rfl) rfl (by simp) (by intro i; simp only [hget]; (repeat' split) <;> simp <;> omega) ?_
  unfold slices_IndexFunc_int__in_1 at hx
  refine Walk.seq (Walk.region' rfl fun K hK => ?_)
  simp only [go_sem, seval]
  refine hK _ ?_
  clear hK K
  refine Walk.seq (Walk.seq (Walk.region' rfl fun K hK => ?_))
  simp only [go_sem, seval]
  refine hK _ ?_
  clear hK K
  refine Walk.block (Walk.loop ?_)
  refine Walk.weaken ⟨[(0, .d (.sl (List.map iD v1))), (1, .fn 90 [.box 0 0]), (7, .d (.int .i64 (v1.length : Int))), (8, .d (.int .i64 0))], [(0, some (.box [.d (.int .i64 v2)]))]⟩ (by simp <;> omega) (by simp <;> omega) ?_
  refine Walk.iter (σ := Int) (fun g => ⟨[(0, .d (.sl (List.map iD v1))), (1, .fn 90 [.box 0 0]), (7, .d (.int .i64 (v1.length : Int))), (8, .d (.int .i64 g))], [(0, some (.box [.d (.int .i64 v2)]))]⟩) (fun g : Int => slices_IndexFunc_int__in_1_l0 v1 v2 g) _ (fun v13 y59 hx ih45 hr46 => ?_) 0 hx
  unfold slices_IndexFunc_int__in_1_l0 at hx
  try dsimp only at hx ⊢
  refine Walk.seq (Walk.region' rfl fun K hK => ?_)
  simp only [go_sem, seval]
  refine hK _ ?_
  clear hK K
  refine Walk.seq (Walk.condO rfl hx (fun c48 hx => ?_) (fun c48 hx => ?_))
  · refine Walk.skip (Walk.seq (Walk.block (Walk.seq (Walk.region' rfl fun K hK => ?_))))
    simp only [go_sem, seval, c48]
    refine hK _ ?_
    clear hK K
    refine Walk.seq (Walk.region' rfl fun K hK => ?_)
    obtain ⟨v16, r49, a50, b51, c52, hx⟩ := rd_elim hx
    obtain ⟨v17, h53, hx⟩ := bind_elim hx
    simp only [go_sem, seval, c48, a50, b51, c52]
    repeat refine And.intro (by first | omega | (simp; done) | (simp; omega)) ?_
    refine VCl.sub [(0, some (.box [.d (.int .i64 v2)]))] [] rfl (by simp only [go_sem, seval, AV.viewXs, AV.viewX, avD, c48, a50, b51, c52]; try simp) (blueprint_in_1_ok v16 v2 _ h53) (by simp [c48, a50, b51, c52]) (by simp [c48, a50, b51, c52]) (by simp [c48, a50, b51, c52]) (by simp [c48, a50, b51, c52]) (by simp [c48, a50, b51, c52]) (by simp [c48, a50, b51, c52]) (by simp [c48, a50, b51, c52]) (by simp [c48, a50, b51, c52]) (by simp [c48, a50, b51, c52]) (by simp [c48, a50, b51, c52]) ?_
    simp only [go_sem, seval, c48, a50, b51, c52]
    refine hK _ ?_
    clear hK K
    refine Walk.weaken ⟨[(0, .d (.sl (List.map iD v1))), (1, .fn 90 [.box 0 0]), (5, .d (.int .i64 v13)), (7, .d (.int .i64 (v1.length : Int))), (8, .d (.int .i64 v13)), (16, .d (.bool v17))], [(0, some (.box [.d (.int .i64 v2)]))]⟩ (by simp [c48, a50, b51, c52] <;> omega) (by simp [c48, a50, b51, c52] <;> omega) ?_
    refine Walk.condO rfl hx (fun c54 hx => ?_) (fun c54 hx => ?_)
    · refine Walk.seq (Walk.region' rfl fun K hK => ?_)
      simp only [go_sem, seval, c48, a50, b51, c52, c54]
      refine hK _ ?_
      clear hK K
      obtain ⟨z55, e56, hx⟩ := exit_elim hx
      rw [hr46 z55 e56] at hx
      obtain rfl := Option.some.inj hx
      exact Walk.ret ⟨by simp [c48, a50, b51, c52, c54], by simp [c48, a50, b51, c52, c54]⟩
    refine Walk.skip (Walk.inBlock (Walk.region' rfl fun K hK => ?_))
    simp only [go_sem, seval, c48, a50, b51, c52, c54]
    refine hK _ ?_
    clear hK K
    exact Walk.weaken _ (by simp [c48, a50, b51, c52, c54] <;> omega) (by simp [c48, a50, b51, c52, c54] <;> omega) (ih45 _ (cont_elim hx))
  refine Walk.exit rfl ?_
  obtain ⟨z57, e58, hx⟩ := exit_elim hx
  rw [hr46 z57 e58] at hx
  refine Walk.seq (Walk.region' rfl fun K hK => ?_)
  simp only [go_sem, seval, c48]
  refine hK _ ?_
  clear hK K
  obtain rfl := Option.some.inj hx
  exact Walk.ret ⟨by simp [c48], by simp [c48]⟩
noncomputable def slices_ContainsFunc_int__in_1 (v1 : List Int) (v2 : Int) : Option (Bool) :=
  (slices_IndexFunc_int__in_1 v1 v2).bind fun v5 => some (decide (v5 ≥ 0) : Bool)
theorem slices_ContainsFunc_int__in_1_ok (v1 : List Int) (v2 : Int) (r : Bool) (hx : slices_ContainsFunc_int__in_1 v1 v2 = some r) :
    ACalls Try.prog 88 [.d (.sl (List.map iD v1)), .fn 90 [.box 0 0]] [(0, some (.box [.d (.int .i64 v2)]))] (.d (.bool r)) [(0, some (.box [.d (.int .i64 v2)]))] := by
  refine ACalls.of_sem (n := 9) 1 [4] (fn := Try.f88) Try.func88 rfl rfl (.one rfl) rfl (by simp) (by intro i; simp only [hget]; (repeat' split) <;> simp <;> omega) ?_
  unfold slices_ContainsFunc_int__in_1 at hx
  refine Walk.seq (Walk.region' rfl fun K hK => ?_)
  simp only [go_sem, seval]
  refine hK _ ?_
  clear hK K
  refine Walk.seq (Walk.region' rfl fun K hK => ?_)
  obtain ⟨v5, h2, hx⟩ := bind_elim hx
  simp only [go_sem, seval]
  refine VCl.sub [(0, some (.box [.d (.int .i64 v2)]))] [] rfl (by simp only [go_sem, seval, AV.viewXs, AV.viewX, avD]; try simp) (slices_IndexFunc_int__in_1_ok v1 v2 _ h2) (by simp) (by simp) (by simp) (by simp) (by simp) (by simp) (by simp) (by simp) (by simp) (by simp) ?_
  simp only [go_sem, seval]
  refine hK _ ?_
  clear hK K
  refine Walk.weaken ⟨[(4, .d (.bool (decide (v5 ≥ 0))))], [(0, some (.box [.d (.int .i64 v2)]))]⟩ (by simp <;> omega) (by simp <;> omega) ?_
  obtain rfl := Option.some.inj hx
  exact Walk.ret ⟨by simp, by simp⟩
noncomputable def blueprint_in (v1 : Int) (v2 : List Int) : Option (Bool) :=
  (slices_ContainsFunc_int__in_1 v2 v1).bind fun v5 => some (!v5 : Bool)
theorem blueprint_in_ok (v1 : Int) (v2 : List Int) (r : Bool) (hx : blueprint_in v1 v2 = some r) :
    ACalls Try.prog 54 [.d (.int .i64 v1), .d (.sl (List.map iD v2))] [] (.d (.bool r)) [] := by
  refine ACalls.of_sem (n := 9) 0 [4] (fn := Try.f54) Try.func54 rfl rfl (.one rfl) rfl (by simp) (by intro i; simp only [hget]; (repeat' split) <;> simp <;> omega) ?_
  unfold blueprint_in at hx
  refine Walk.seq (Walk.region' rfl fun K hK => ?_)
  simp only [go_sem, seval]
  refine hK _ ?_
  clear hK K
  refine Walk.seq (Walk.region' rfl fun K hK => ?_)
  obtain ⟨v5, h3, hx⟩ := bind_elim hx
  have w4 := ((slices_ContainsFunc_int__in_1_ok v2 v1 _ h3).swap 0 2)
  simp only [renE, renL, AV.ren, AV.rens, AObj.ren, swp, Option.map_some, reduceIte, Nat.reduceEqDiff] at w4
  simp only [go_sem, seval]
  refine VCl.sub [(2, some (.box [.d (.int .i64 v1)]))] [] rfl (by simp only [go_sem, seval, AV.viewXs, AV.viewX, avD]; try simp) (w4) (by simp) (by simp) (by simp) (by simp) (by simp) (by simp) (by simp) (by simp) (by simp) (by simp) ?_
  simp only [go_sem, seval]
  refine hK _ ?_
  clear hK K
  refine Walk.weaken ⟨[(4, .d (.bool (!v5)))], []⟩ (by simp <;> omega) (by simp <;> omega) ?_
  obtain rfl := Option.some.inj hx
  exact Walk.ret ⟨by simp, by simp⟩
noncomputable def blueprint_small_1 (v1 : Int) : Option (Bool) :=
  bif decide (v1 < (-10000)) then (some (true : Bool)) else (some (decide (v1 > 10000) : Bool))
theorem blueprint_small_1_ok (v1 : Int) (r : Bool) (hx : blueprint_small_1 v1 = some r) :
    ACalls Try.prog 89 [.d (.int .i64 v1)] [] (.d (.bool r)) [] := by
  refine ACalls.of_sem (n := 9) 0 [2] (fn := Try.f89) Try.func89 rfl rfl (.one rfl) rfl (by simp) (by intro i; simp only [hget]; (repeat' split) <;> simp <;> omega) ?_
  unfold blueprint_small_1 at hx
  refine Walk.seq (Walk.region' rfl fun K hK => ?_)
  simp only [go_sem, seval]
  refine hK _ ?_
  clear hK K
  refine Walk.seq (Walk.region' rfl fun K hK => ?_)
  simp only [go_sem, seval]
  refine VGdO hx (fun g2 hx => ?_) (fun g2 hx => ?_)
  · simp only [go_sem, seval, g2]
    refine hK _ ?_
    clear hK K
    obtain rfl := Option.some.inj hx
    exact Walk.ret ⟨by simp [g2], by simp [g2]⟩
  simp only [go_sem, seval, g2]
  refine hK _ ?_
  clear hK K
  obtain rfl := Option.some.inj hx
  exact Walk.ret ⟨by simp [g2], by simp [g2]⟩
noncomputable def slices_IndexFunc_int__small_1_l0 (v1 : List Int) (v12 : Int) : Option ((Int) ⊕ (Int)) :=
  bif decide (v12 < (v1.length : Int)) then ((rd v1 v12).bind fun v15 => (blueprint_small_1 v15).bind fun v16 => bif v16 then (exitO (some (v12 : Int))) else (contO (IntKind.i64.wrap (v12 + 1) : Int))) else (exitO (some (-1 : Int)))
noncomputable def slices_IndexFunc_int__small_1 (v1 : List Int) : Option (Int) :=
  iter (fun g : Int => slices_IndexFunc_int__small_1_l0 v1 g) 0
theorem slices_IndexFunc_int__small_1_ok (v1 : List Int) (r : Int) (hx : slices_IndexFunc_int__small_1 v1 = some r) :
    ACalls Try.prog 106 [.d (.sl (List.map iD v1)), .fn 89 []] [] (.d (.int .i64 r)) [] := by
  refine ACalls.of_sem (n := 19) 0 [4] (fn := Try.f106) Try.func106 rfl rfl (.one rfl) rfl (by simp) (by intro i; simp only [hget]; (repeat' split) <;> simp <;> omega) ?_
  unfold slices_IndexFunc_int__small_1 at hx
  refine Walk.seq (Walk.region' rfl fun K hK => ?_)
  simp only [go_sem, seval]
  refine hK _ ?_
  clear hK K
  refine Walk.seq (Walk.seq (Walk.region' rfl fun K hK => ?_))
  simp only [go_sem, seval]
  refine hK _ ?_
  clear hK K
  refine Walk.block (Walk.loop ?_)
  refine Walk.weaken ⟨[(0, .d (.sl (List.map iD v1))), (1, .fn 89 []), (7, .d (.int .i64 (v1.length : Int))), (8, .d (.int .i64 0))], []⟩ (by simp <;> omega) (by simp <;> omega) ?_
  refine Walk.iter (σ := Int) (fun g => ⟨[(0, .d (.sl (List.map iD v1))), (1, .fn 89 []), (7, .d (.int .i64 (v1.length : Int))), (8, .d (.int .i64 g))], []⟩) (fun g : Int => slices_IndexFunc_int__small_1_l0 v1 g) _ (fun v12 y59 hx ih45 hr46 => ?_) 0 hx
  unfold slices_IndexFunc_int__small_1_l0 at hx
  try dsimp only at hx ⊢
  refine Walk.seq (Walk.region' rfl fun K hK => ?_)
  simp only [go_sem, seval]
  refine hK _ ?_
  clear hK K
  refine Walk.seq (Walk.condO rfl hx (fun c48 hx => ?_) (fun c48 hx => ?_))
  · refine Walk.skip (Walk.seq (Walk.block (Walk.seq (Walk.region' rfl fun K hK => ?_))))
    simp only [go_sem, seval, c48]
    refine hK _ ?_
    clear hK K
    refine Walk.seq (Walk.region' rfl fun K hK => ?_)
    obtain ⟨v15, r49, a50, b51, c52, hx⟩ := rd_elim hx
    obtain ⟨v16, h53, hx⟩ := bind_elim hx
    simp only [go_sem, seval, c48, a50, b51, c52]
    repeat refine And.intro (by first | omega | (simp; done) | (simp; omega)) ?_
    refine VCl.pure rfl (by simp only [go_sem, seval, c48, a50, b51, c52]; try simp) (blueprint_small_1_ok v15 _ h53) (by simp only [go_sem, seval, c48, a50, b51, c52]; try simp) (by simp only [go_sem, seval, c48, a50, b51, c52]; try simp) (by simp only [go_sem, seval, c48, a50, b51, c52]; try simp) (by simp only [go_sem, seval, c48, a50, b51, c52]; try simp) (by simp only [go_sem, seval, c48, a50, b51, c52]; try simp) (by simp only [go_sem, seval, c48, a50, b51, c52]; try simp) ?_
    simp only [go_sem, seval, c48, a50, b51, c52]
    refine hK _ ?_
    clear hK K
    refine Walk.condO rfl hx (fun c54 hx => ?_) (fun c54 hx => ?_)
    · refine Walk.seq (Walk.region' rfl fun K hK => ?_)
      simp only [go_sem, seval, c48, a50, b51, c52, c54]
      refine hK _ ?_
      clear hK K
      obtain ⟨z55, e56, hx⟩ := exit_elim hx
      rw [hr46 z55 e56] at hx
      obtain rfl := Option.some.inj hx
      exact Walk.ret ⟨by simp [c48, a50, b51, c52, c54], by simp [c48, a50, b51, c52, c54]⟩
    refine Walk.skip (Walk.inBlock (Walk.region' rfl fun K hK => ?_))
    simp only [go_sem, seval, c48, a50, b51, c52, c54]
    refine hK _ ?_
    clear hK K
    exact Walk.weaken _ (by simp [c48, a50, b51, c52, c54] <;> omega) (by simp [c48, a50, b51, c52, c54] <;> omega) (ih45 _ (cont_elim hx))
  refine Walk.exit rfl ?_
  obtain ⟨z57, e58, hx⟩ := exit_elim hx
  rw [hr46 z57 e58] at hx
  refine Walk.seq (Walk.region' rfl fun K hK => ?_)
  simp only [go_sem, seval, c48]
  refine hK _ ?_
  clear hK K
  obtain rfl := Option.some.inj hx
  exact Walk.ret ⟨by simp [c48], by simp [c48]⟩
noncomputable def slices_ContainsFunc_int__small_1 (v1 : List Int) : Option (Bool) :=
  (slices_IndexFunc_int__small_1 v1).bind fun v4 => some (decide (v4 ≥ 0) : Bool)
theorem slices_ContainsFunc_int__small_1_ok (v1 : List Int) (r : Bool) (hx : slices_ContainsFunc_int__small_1 v1 = some r) :
    ACalls Try.prog 88 [.d (.sl (List.map iD v1)), .fn 89 []] [] (.d (.bool r)) [] := by
  refine ACalls.of_sem (n := 9) 0 [4] (fn := Try.f88) Try.func88 rfl rfl (.one rfl) rfl (by simp) (by intro i; simp only [hget]; (repeat' split) <;> simp <;> omega) ?_
  unfold slices_ContainsFunc_int__small_1 at hx
  refine Walk.seq (Walk.region' rfl fun K hK => ?_)
  simp only [go_sem, seval]
  refine hK _ ?_
  clear hK K
  refine Walk.seq (Walk.region' rfl fun K hK => ?_)
  obtain ⟨v4, h2, hx⟩ := bind_elim hx
  simp only [go_sem, seval]
  refine VCl.pure rfl (by simp only [go_sem, seval]; try simp) (slices_IndexFunc_int__small_1_ok v1 _ h2) (by simp only [go_sem, seval]; try simp) (by simp only [go_sem, seval]; try simp) (by simp only [go_sem, seval]; try simp) (by simp only [go_sem, seval]; try simp) (by simp only [go_sem, seval]; try simp) (by simp only [go_sem, seval]; try simp) ?_
  simp only [go_sem, seval]
  refine hK _ ?_
  clear hK K
  obtain rfl := Option.some.inj hx
  exact Walk.ret ⟨by simp, by simp⟩
noncomputable def blueprint_small (v1 : List Int) : Option (Bool) :=
  (slices_ContainsFunc_int__small_1 v1).bind fun v4 => some (!v4 : Bool)
theorem blueprint_small_ok (v1 : List Int) (r : Bool) (hx : blueprint_small v1 = some r) :
    ACalls Try.prog 46 [.d (.sl (List.map iD v1))] [] (.d (.bool r)) [] := by
  refine ACalls.of_sem (n := 6) 0 [2] (fn := Try.f46) Try.func46 rfl rfl (.one rfl) rfl (by simp) (by intro i; simp only [hget]; (repeat' split) <;> simp <;> omega) ?_
  unfold blueprint_small at hx
  refine Walk.seq (Walk.region' rfl fun K hK => ?_)
  simp only [go_sem, seval]
  refine hK _ ?_
  clear hK K
  refine Walk.seq (Walk.region' rfl fun K hK => ?_)
  obtain ⟨v4, h2, hx⟩ := bind_elim hx
  simp only [go_sem, seval]
  refine VCl.pure rfl (by simp only [go_sem, seval]; try simp) (slices_ContainsFunc_int__small_1_ok v1 _ h2) (by simp only [go_sem, seval]; try simp) (by simp only [go_sem, seval]; try simp) (by simp only [go_sem, seval]; try simp) (by simp only [go_sem, seval]; try simp) (by simp only [go_sem, seval]; try simp) (by simp only [go_sem, seval]; try simp) ?_
  simp only [go_sem, seval]
  refine hK _ ?_
  clear hK K
  obtain rfl := Option.some.inj hx
  exact Walk.ret ⟨by simp, by simp⟩
noncomputable def blueprint_Valid_l0 (v2 : List Row) (v1 : List Int) (v17 : Int) : Option ((Int) ⊕ (Bool)) :=
  bif decide (v17 < (v2.length : Int)) then ((rd v2 v17).bind fun v20 => bif decide (¬ (v20.Coefs.length : Int) = (v1.length : Int)) then (exitO (some (false : Bool))) else ((blueprint_small v20.Coefs).bind fun v21 => bif !v21 then (exitO (some (false : Bool))) else (bif decide ((max v20.Least v20.Most) > 1000000) then (exitO (some (false : Bool))) else (bif decide ((min v20.Least v20.Most) < (-1000000)) then (exitO (some (false : Bool))) else (contO (IntKind.i64.wrap (v17 + 1) : Int)))))) else (exitO (some (true : Bool)))
noncomputable def blueprint_Valid (v1 : List Int) (v2 : List Row) : Option (Bool) :=
  bif decide ((v1.length : Int) > 12) then (some (false : Bool)) else ((blueprint_in 10000 v1).bind fun v14 => bif !v14 then (some (false : Bool)) else (bif decide ((v2.length : Int) > 60) then (some (false : Bool)) else (iter (fun g : Int => blueprint_Valid_l0 v2 v1 g) 0)))
theorem blueprint_Valid_ok (v1 : List Int) (v2 : List Row) (r : Bool) (hx : blueprint_Valid v1 v2 = some r) :
    ACalls Try.prog 32 [.agg [.d (.sl (List.map iD v1)), .d (.sl (List.map Row.D v2))]] [] (.d (.bool r)) [] := by
  refine ACalls.of_sem (n := 58) 0 [2] (fn := Try.f32) Try.func32 rfl rfl (.one rfl) rfl (by simp) (by intro i; simp only [hget]; (repeat' split) <;> simp <;> omega) ?_
  unfold blueprint_Valid at hx
  refine Walk.seq (Walk.region' rfl fun K hK => ?_)
  simp only [go_sem, seval]
  refine hK _ ?_
  clear hK K
  refine Walk.seq (Walk.seq (Walk.region' rfl fun K hK => ?_))
  simp only [go_sem, seval]
  refine VGdO hx (fun g51 hx => ?_) (fun g51 hx => ?_)
  · simp only [go_sem, seval, g51]
    refine hK _ ?_
    clear hK K
    refine Walk.condT rfl (Walk.seq (Walk.region' rfl fun K hK => ?_))
    simp only [go_sem, seval, g51]
    refine hK _ ?_
    clear hK K
    obtain rfl := Option.some.inj hx
    exact Walk.ret ⟨by simp [g51], by simp [g51]⟩
  obtain ⟨v14, h52, hx⟩ := bind_elim hx
  simp only [go_sem, seval, g51]
  refine VCl.pure rfl (by simp only [go_sem, seval, g51]; try simp) (blueprint_in_ok 10000 v1 _ h52) (by simp only [go_sem, seval, g51]; try simp) (by simp only [go_sem, seval, g51]; try simp) (by simp only [go_sem, seval, g51]; try simp) (by simp only [go_sem, seval, g51]; try simp) (by simp only [go_sem, seval, g51]; try simp) (by simp only [go_sem, seval, g51]; try simp) ?_
  simp only [go_sem, seval, g51]
  refine VGdO hx (fun g53 hx => ?_) (fun g53 hx => ?_)
  · simp only [go_sem, seval, g51, g53]
    refine hK _ ?_
    clear hK K
    refine Walk.condT rfl (Walk.seq (Walk.region' rfl fun K hK => ?_))
    simp only [go_sem, seval, g51, g53]
    refine hK _ ?_
    clear hK K
    obtain rfl := Option.some.inj hx
    exact Walk.ret ⟨by simp [g51, g53], by simp [g51, g53]⟩
  simp only [go_sem, seval, g51, g53]
  refine hK _ ?_
  clear hK K
  refine Walk.condO rfl hx (fun c55 hx => ?_) (fun c55 hx => ?_)
  · refine Walk.seq (Walk.region' rfl fun K hK => ?_)
    simp only [go_sem, seval, g51, g53, c55]
    refine hK _ ?_
    clear hK K
    obtain rfl := Option.some.inj hx
    exact Walk.ret ⟨by simp [g51, g53, c55], by simp [g51, g53, c55]⟩
  refine Walk.skip (Walk.seq (Walk.seq (Walk.region' rfl fun K hK => ?_)))
  simp only [go_sem, seval, g51, g53, c55]
  refine hK _ ?_
  clear hK K
  refine Walk.block (Walk.loop ?_)
  refine Walk.weaken ⟨[(1, .box 1 0), (22, .d (.sl (List.map Row.D v2))), (23, .d (.int .i64 (v2.length : Int))), (24, .d (.int .i64 0))], [(1, some (.box [.d (.sl (List.map iD v1)), .d (.sl (List.map Row.D v2))]))]⟩ (by simp [g51, g53, c55] <;> omega) (by simp [g51, g53, c55] <;> omega) ?_
  refine Walk.iter (σ := Int) (fun g => ⟨[(1, .box 1 0), (22, .d (.sl (List.map Row.D v2))), (23, .d (.int .i64 (v2.length : Int))), (24, .d (.int .i64 g))], [(1, some (.box [.d (.sl (List.map iD v1)), .d (.sl (List.map Row.D v2))]))]⟩) (fun g : Int => blueprint_Valid_l0 v2 v1 g) _ (fun v17 y101 hx ih78 hr79 => ?_) 0 hx
  unfold blueprint_Valid_l0 at hx
  try dsimp only at hx ⊢
  refine Walk.seq (Walk.region' rfl fun K hK => ?_)
  simp only [go_sem, seval, g51, g53, c55]
  refine hK _ ?_
  clear hK K
  refine Walk.seq (Walk.condO rfl hx (fun c81 hx => ?_) (fun c81 hx => ?_))
  · refine Walk.skip (Walk.seq (Walk.block (Walk.seq (Walk.region' rfl fun K hK => ?_))))
    obtain ⟨v20, r82, a83, b84, c85, hx⟩ := rd_elim hx
    simp only [go_sem, seval, g51, g53, c55, c81, a83, b84, c85]
    repeat refine And.intro (by first | omega | (simp; done) | (simp; omega)) ?_
    refine hK _ ?_
    clear hK K
    refine Walk.seq (Walk.region' rfl fun K hK => ?_)
    simp only [go_sem, seval, g51, g53, c55, c81, a83, b84, c85]
    refine VGdO hx (fun g86 hx => ?_) (fun g86 hx => ?_)
    · simp only [go_sem, seval, g51, g53, c55, c81, a83, b84, c85, g86]
      refine hK _ ?_
      clear hK K
      refine Walk.condT rfl (Walk.seq (Walk.region' rfl fun K hK => ?_))
      simp only [go_sem, seval, g51, g53, c55, c81, a83, b84, c85, g86]
      refine hK _ ?_
      clear hK K
      obtain ⟨z87, e88, hx⟩ := exit_elim hx
      rw [hr79 z87 e88] at hx
      obtain rfl := Option.some.inj hx
      exact Walk.ret ⟨by simp [g51, g53, c55, c81, a83, b84, c85, g86], by simp [g51, g53, c55, c81, a83, b84, c85, g86]⟩
    obtain ⟨v21, h89, hx⟩ := bind_elim hx
    simp only [go_sem, seval, g51, g53, c55, c81, a83, b84, c85, g86]
    refine VCl.pure rfl (by simp only [go_sem, seval, g51, g53, c55, c81, a83, b84, c85, g86]; try simp) (blueprint_small_ok v20.Coefs _ h89) (by simp only [go_sem, seval, g51, g53, c55, c81, a83, b84, c85, g86]; try simp) (by simp only [go_sem, seval, g51, g53, c55, c81, a83, b84, c85, g86]; try simp) (by simp only [go_sem, seval, g51, g53, c55, c81, a83, b84, c85, g86]; try simp) (by simp only [go_sem, seval, g51, g53, c55, c81, a83, b84, c85, g86]; try simp) (by simp only [go_sem, seval, g51, g53, c55, c81, a83, b84, c85, g86]; try simp) (by simp only [go_sem, seval, g51, g53, c55, c81, a83, b84, c85, g86]; try simp) ?_
    simp only [go_sem, seval, g51, g53, c55, c81, a83, b84, c85, g86]
    refine VGdO hx (fun g90 hx => ?_) (fun g90 hx => ?_)
    · simp only [go_sem, seval, g51, g53, c55, c81, a83, b84, c85, g86, g90]
      refine hK _ ?_
      clear hK K
      refine Walk.condT rfl (Walk.seq (Walk.region' rfl fun K hK => ?_))
      simp only [go_sem, seval, g51, g53, c55, c81, a83, b84, c85, g86, g90]
      refine hK _ ?_
      clear hK K
      obtain ⟨z91, e92, hx⟩ := exit_elim hx
      rw [hr79 z91 e92] at hx
      obtain rfl := Option.some.inj hx
      exact Walk.ret ⟨by simp [g51, g53, c55, c81, a83, b84, c85, g86, g90], by simp [g51, g53, c55, c81, a83, b84, c85, g86, g90]⟩
    simp only [go_sem, seval, g51, g53, c55, c81, a83, b84, c85, g86, g90]
    refine VGdO hx (fun g93 hx => ?_) (fun g93 hx => ?_)
    · simp only [go_sem, seval, g51, g53, c55, c81, a83, b84, c85, g86, g90, g93]
      refine hK _ ?_
      clear hK K
      refine Walk.condT rfl (Walk.seq (Walk.region' rfl fun K hK => ?_))
      simp only [go_sem, seval, g51, g53, c55, c81, a83, b84, c85, g86, g90, g93]
      refine hK _ ?_
      clear hK K
      obtain ⟨z94, e95, hx⟩ := exit_elim hx
      rw [hr79 z94 e95] at hx
      obtain rfl := Option.some.inj hx
      exact Walk.ret ⟨by simp [g51, g53, c55, c81, a83, b84, c85, g86, g90, g93], by simp [g51, g53, c55, c81, a83, b84, c85, g86, g90, g93]⟩
    simp only [go_sem, seval, g51, g53, c55, c81, a83, b84, c85, g86, g90, g93]
    refine hK _ ?_
    clear hK K
    refine Walk.condO rfl hx (fun c96 hx => ?_) (fun c96 hx => ?_)
    · refine Walk.seq (Walk.region' rfl fun K hK => ?_)
      simp only [go_sem, seval, g51, g53, c55, c81, a83, b84, c85, g86, g90, g93, c96]
      refine hK _ ?_
      clear hK K
      obtain ⟨z97, e98, hx⟩ := exit_elim hx
      rw [hr79 z97 e98] at hx
      obtain rfl := Option.some.inj hx
      exact Walk.ret ⟨by simp [g51, g53, c55, c81, a83, b84, c85, g86, g90, g93, c96], by simp [g51, g53, c55, c81, a83, b84, c85, g86, g90, g93, c96]⟩
    refine Walk.skip (Walk.inBlock (Walk.region' rfl fun K hK => ?_))
    simp only [go_sem, seval, g51, g53, c55, c81, a83, b84, c85, g86, g90, g93, c96]
    refine hK _ ?_
    clear hK K
    exact Walk.weaken _ (by simp [g51, g53, c55, c81, a83, b84, c85, g86, g90, g93, c96] <;> omega) (by simp [g51, g53, c55, c81, a83, b84, c85, g86, g90, g93, c96] <;> omega) (ih78 _ (cont_elim hx))
  refine Walk.exit rfl ?_
  obtain ⟨z99, e100, hx⟩ := exit_elim hx
  rw [hr79 z99 e100] at hx
  refine Walk.seq (Walk.region' rfl fun K hK => ?_)
  simp only [go_sem, seval, g51, g53, c55, c81]
  refine hK _ ?_
  clear hK K
  obtain rfl := Option.some.inj hx
  exact Walk.ret ⟨by simp [g51, g53, c55, c81], by simp [g51, g53, c55, c81]⟩
noncomputable def blueprint_Span_l0 (v1 : List Int) (v4 : List Int) (v23 : Int) (v24 : Int) (v25 : Int) : Option ((Int × Int × Int) ⊕ (Int × Int × Bool)) :=
  bif decide (v25 < (v1.length : Int)) then ((rd v1 v25).bind fun v28 => (rd v4 v25).bind fun v29 => bif decide (v29 = 1) then (contO ((IntKind.i64.wrap (v23 + v28), IntKind.i64.wrap (v24 + v28), IntKind.i64.wrap (v25 + 1)) : Int × Int × Int)) else (bif decide (v29 = (-1)) then (contO ((IntKind.i64.wrap (v23 + (min v28 0)), IntKind.i64.wrap (v24 + (max v28 0)), IntKind.i64.wrap (v25 + 1)) : Int × Int × Int)) else (bif decide (v29 = 0) then (contO ((v23, v24, IntKind.i64.wrap (v25 + 1)) : Int × Int × Int)) else (exitO (some ((0, 0, false) : Int × Int × Bool)))))) else (exitO (some ((v23, v24, true) : Int × Int × Bool)))
noncomputable def blueprint_Span (v1 : List Int) (v2 : Int) (v3 : Int) (v4 : List Int) : Option (Int × Int × Bool) :=
  bif decide (¬ (v4.length : Int) = (v1.length : Int)) then (some ((0, 0, false) : Int × Int × Bool)) else (bif decide ((v4.length : Int) > 12) then (some ((0, 0, false) : Int × Int × Bool)) else ((blueprint_small v1).bind fun v20 => bif !v20 then (some ((0, 0, false) : Int × Int × Bool)) else (iter (fun g : Int × Int × Int => blueprint_Span_l0 v1 v4 g.1 g.2.1 g.2.2) (0, 0, 0))))
theorem blueprint_Span_ok (v1 : List Int) (v2 : Int) (v3 : Int) (v4 : List Int) (r : Int × Int × Bool) (hx : blueprint_Span v1 v2 v3 v4 = some r) :
    ACalls Try.prog 16 [.agg [.d (.sl (List.map iD v1)), .d (.int .i64 v2), .d (.int .i64 v3)], .d (.sl (List.map iD v4))] [] (.tup [.d (.int .i64 r.1), .d (.int .i64 r.2.1), .d (.bool r.2.2)]) [] := by
  refine ACalls.of_sem (n := 61) 0 [4, 5, 6] (fn := Try.f16) Try.func16 rfl rfl (.three rfl) rfl (by simp) (by intro i; simp only [hget]; (repeat' split) <;> simp <;> omega) ?_
  unfold blueprint_Span at hx
  refine Walk.seq (Walk.region' rfl fun K hK => ?_)
  simp only [go_sem, seval]
  refine hK _ ?_
  clear hK K
  refine Walk.seq (Walk.seq (Walk.region' rfl fun K hK => ?_))
  simp only [go_sem, seval]
  refine VGdO hx (fun g57 hx => ?_) (fun g57 hx => ?_)
  · simp only [go_sem, seval, g57]
    refine hK _ ?_
    clear hK K
    refine Walk.condT rfl (Walk.seq (Walk.region' rfl fun K hK => ?_))
    simp only [go_sem, seval, g57]
    refine hK _ ?_
    clear hK K
    obtain rfl := Option.some.inj hx
    exact Walk.ret ⟨by simp [g57], by simp [g57]⟩
  simp only [go_sem, seval, g57]
  refine VGdO hx (fun g58 hx => ?_) (fun g58 hx => ?_)
  · simp only [go_sem, seval, g57, g58]
    refine hK _ ?_
    clear hK K
    refine Walk.condT rfl (Walk.seq (Walk.region' rfl fun K hK => ?_))
    simp only [go_sem, seval, g57, g58]
    refine hK _ ?_
    clear hK K
    obtain rfl := Option.some.inj hx
    exact Walk.ret ⟨by simp [g57, g58], by simp [g57, g58]⟩
  obtain ⟨v20, h59, hx⟩ := bind_elim hx
  simp only [go_sem, seval, g57, g58]
  refine VCl.pure rfl (by simp only [go_sem, seval, g57, g58]; try simp) (blueprint_small_ok v1 _ h59) (by simp only [go_sem, seval, g57, g58]; try simp) (by simp only [go_sem, seval, g57, g58]; try simp) (by simp only [go_sem, seval, g57, g58]; try simp) (by simp only [go_sem, seval, g57, g58]; try simp) (by simp only [go_sem, seval, g57, g58]; try simp) (by simp only [go_sem, seval, g57, g58]; try simp) ?_
  simp only [go_sem, seval, g57, g58]
  refine hK _ ?_
  clear hK K
  refine Walk.condO rfl hx (fun c61 hx => ?_) (fun c61 hx => ?_)
  · refine Walk.seq (Walk.region' rfl fun K hK => ?_)
    simp only [go_sem, seval, g57, g58, c61]
    refine hK _ ?_
    clear hK K
    obtain rfl := Option.some.inj hx
    exact Walk.ret ⟨by simp [g57, g58, c61], by simp [g57, g58, c61]⟩
  refine Walk.skip (Walk.seq (Walk.seq (Walk.region' rfl fun K hK => ?_)))
  simp only [go_sem, seval, g57, g58, c61]
  refine hK _ ?_
  clear hK K
  refine Walk.block (Walk.loop ?_)
  refine Walk.weaken ⟨[(1, .d (.sl (List.map iD v4))), (4, .d (.int .i64 0)), (5, .d (.int .i64 0)), (27, .d (.sl (List.map iD v1))), (28, .d (.int .i64 (v1.length : Int))), (29, .d (.int .i64 0))], []⟩ (by simp [g57, g58, c61] <;> omega) (by simp [g57, g58, c61] <;> omega) ?_
  refine Walk.iter (σ := Int × Int × Int) (fun g => ⟨[(1, .d (.sl (List.map iD v4))), (4, .d (.int .i64 g.1)), (5, .d (.int .i64 g.2.1)), (27, .d (.sl (List.map iD v1))), (28, .d (.int .i64 (v1.length : Int))), (29, .d (.int .i64 g.2.2))], []⟩) (fun g : Int × Int × Int => blueprint_Span_l0 v1 v4 g.1 g.2.1 g.2.2) _ (fun g y107 hx ih88 hr89 => ?_) (0, 0, 0) hx
  obtain ⟨v23, v24, v25⟩ := g
  unfold blueprint_Span_l0 at hx
  try dsimp only at hx ⊢
  refine Walk.seq (Walk.region' rfl fun K hK => ?_)
  simp only [go_sem, seval, g57, g58, c61]
  refine hK _ ?_
  clear hK K
  refine Walk.seq (Walk.condO rfl hx (fun c91 hx => ?_) (fun c91 hx => ?_))
  · refine Walk.skip (Walk.seq (Walk.block (Walk.seq (Walk.region' rfl fun K hK => ?_))))
    obtain ⟨v28, r92, a93, b94, c95, hx⟩ := rd_elim hx
    simp only [go_sem, seval, g57, g58, c61, c91, a93, b94, c95]
    repeat refine And.intro (by first | omega | (simp; done) | (simp; omega)) ?_
    refine hK _ ?_
    clear hK K
    refine Walk.seq (Walk.region' rfl fun K hK => ?_)
    obtain ⟨v29, r96, a97, b98, c99, hx⟩ := rd_elim hx
    simp only [go_sem, seval, g57, g58, c61, c91, a93, b94, c95, a97, b98, c99]
    repeat refine And.intro (by first | omega | (simp; done) | (simp; omega)) ?_
    refine hK _ ?_
    clear hK K
    refine Walk.block (Walk.seq (Walk.region' rfl fun K hK => ?_))
    simp only [go_sem, seval, g57, g58, c61, c91, a93, b94, c95, a97, b98, c99]
    refine hK _ ?_
    clear hK K
    refine Walk.condO rfl hx (fun c100 hx => ?_) (fun c100 hx => ?_)
    · refine Walk.region' rfl fun K hK => ?_
      simp only [go_sem, seval, g57, g58, c61, c91, a93, b94, c95, a97, b98, c99, c100]
      refine hK _ ?_
      clear hK K
      refine Walk.inBlock (Walk.inBlock (Walk.region' rfl fun K hK => ?_))
      simp only [go_sem, seval, g57, g58, c61, c91, a93, b94, c95, a97, b98, c99, c100]
      refine hK _ ?_
      clear hK K
      exact Walk.weaken _ (by simp [g57, g58, c61, c91, a93, b94, c95, a97, b98, c99, c100] <;> omega) (by simp [g57, g58, c61, c91, a93, b94, c95, a97, b98, c99, c100] <;> omega) (ih88 _ (cont_elim hx))
    refine Walk.seq (Walk.region' rfl fun K hK => ?_)
    simp only [go_sem, seval, g57, g58, c61, c91, a93, b94, c95, a97, b98, c99, c100]
    refine hK _ ?_
    clear hK K
    refine Walk.condO rfl hx (fun c101 hx => ?_) (fun c101 hx => ?_)
    · refine Walk.region' rfl fun K hK => ?_
      simp only [go_sem, seval, g57, g58, c61, c91, a93, b94, c95, a97, b98, c99, c100, c101]
      refine hK _ ?_
      clear hK K
      refine Walk.inBlock (Walk.inBlock (Walk.region' rfl fun K hK => ?_))
      simp only [go_sem, seval, g57, g58, c61, c91, a93, b94, c95, a97, b98, c99, c100, c101]
      refine hK _ ?_
      clear hK K
      exact Walk.weaken _ (by simp [g57, g58, c61, c91, a93, b94, c95, a97, b98, c99, c100, c101] <;> omega) (by simp [g57, g58, c61, c91, a93, b94, c95, a97, b98, c99, c100, c101] <;> omega) (ih88 _ (cont_elim hx))
    refine Walk.seq (Walk.region' rfl fun K hK => ?_)
    simp only [go_sem, seval, g57, g58, c61, c91, a93, b94, c95, a97, b98, c99, c100, c101]
    refine hK _ ?_
    clear hK K
    refine Walk.condO rfl hx (fun c102 hx => ?_) (fun c102 hx => ?_)
    · refine Walk.skip (Walk.inBlock (Walk.inBlock (Walk.region' rfl fun K hK => ?_)))
      simp only [go_sem, seval, g57, g58, c61, c91, a93, b94, c95, a97, b98, c99, c100, c101, c102]
      refine hK _ ?_
      clear hK K
      exact Walk.weaken _ (by simp [g57, g58, c61, c91, a93, b94, c95, a97, b98, c99, c100, c101, c102] <;> omega) (by simp [g57, g58, c61, c91, a93, b94, c95, a97, b98, c99, c100, c101, c102] <;> omega) (ih88 _ (cont_elim hx))
    refine Walk.seq (Walk.region' rfl fun K hK => ?_)
    simp only [go_sem, seval, g57, g58, c61, c91, a93, b94, c95, a97, b98, c99, c100, c101, c102]
    refine hK _ ?_
    clear hK K
    obtain ⟨z103, e104, hx⟩ := exit_elim hx
    rw [hr89 z103 e104] at hx
    obtain rfl := Option.some.inj hx
    exact Walk.ret ⟨by simp [g57, g58, c61, c91, a93, b94, c95, a97, b98, c99, c100, c101, c102], by simp [g57, g58, c61, c91, a93, b94, c95, a97, b98, c99, c100, c101, c102]⟩
  refine Walk.exit rfl ?_
  obtain ⟨z105, e106, hx⟩ := exit_elim hx
  rw [hr89 z105 e106] at hx
  refine Walk.seq (Walk.region' rfl fun K hK => ?_)
  simp only [go_sem, seval, g57, g58, c61, c91]
  refine hK _ ?_
  clear hK K
  obtain rfl := Option.some.inj hx
  exact Walk.ret ⟨by simp [g57, g58, c61, c91], by simp [g57, g58, c61, c91]⟩
noncomputable def blueprint_Dead_l0 (v2 : List Row) (v3 : List Int) (v18 : Int) : Option ((Int) ⊕ (Int)) :=
  bif decide (v18 < (v2.length : Int)) then ((rd v2 v18).bind fun v21 => (blueprint_Span v21.Coefs v21.Least v21.Most v3).bind fun v22 => bif v22.2.2 then (bif decide (v22.1 > v21.Most) then (exitO (some (v18 : Int))) else (bif decide (v22.2.1 < v21.Least) then (exitO (some (v18 : Int))) else (bif decide (v21.Least > v21.Most) then (exitO (some (v18 : Int))) else (contO (IntKind.i64.wrap (v18 + 1) : Int))))) else (contO (IntKind.i64.wrap (v18 + 1) : Int))) else (exitO (some (-1 : Int)))
noncomputable def blueprint_Dead (v1 : List Int) (v2 : List Row) (v3 : List Int) : Option (Int) :=
  (blueprint_Valid v1 v2).bind fun v15 => bif !v15 then (some (-1 : Int)) else (iter (fun g : Int => blueprint_Dead_l0 v2 v3 g) 0)
theorem blueprint_Dead_ok (v1 : List Int) (v2 : List Row) (v3 : List Int) (r : Int) (hx : blueprint_Dead v1 v2 v3 = some r) :
    ACalls Try.prog 20 [.agg [.d (.sl (List.map iD v1)), .d (.sl (List.map Row.D v2))], .d (.sl (List.map iD v3))] [] (.d (.int .i64 r)) [] := by
  refine ACalls.of_sem (n := 50) 0 [4] (fn := Try.f20) Try.func20 rfl rfl (.one rfl) rfl (by simp) (by intro i; simp only [hget]; (repeat' split) <;> simp <;> omega) ?_
  unfold blueprint_Dead at hx
  refine Walk.seq (Walk.region' rfl fun K hK => ?_)
  simp only [go_sem, seval]
  refine hK _ ?_
  clear hK K
  refine Walk.seq (Walk.seq (Walk.region' rfl fun K hK => ?_))
  obtain ⟨v15, h45, hx⟩ := bind_elim hx
  simp only [go_sem, seval]
  refine VCl.pure rfl (by simp only [go_sem, seval]; try simp) (blueprint_Valid_ok v1 v2 _ h45) (by simp only [go_sem, seval]; try simp) (by simp only [go_sem, seval]; try simp) (by simp only [go_sem, seval]; try simp) (by simp only [go_sem, seval]; try simp) (by simp only [go_sem, seval]; try simp) (by simp only [go_sem, seval]; try simp) ?_
  simp only [go_sem, seval]
  refine hK _ ?_
  clear hK K
  refine Walk.condO rfl hx (fun c47 hx => ?_) (fun c47 hx => ?_)
  · refine Walk.seq (Walk.region' rfl fun K hK => ?_)
    simp only [go_sem, seval, c47]
    refine hK _ ?_
    clear hK K
    obtain rfl := Option.some.inj hx
    exact Walk.ret ⟨by simp [c47], by simp [c47]⟩
  refine Walk.skip (Walk.seq (Walk.seq (Walk.region' rfl fun K hK => ?_)))
  simp only [go_sem, seval, c47]
  refine hK _ ?_
  clear hK K
  refine Walk.block (Walk.loop ?_)
  refine Walk.weaken ⟨[(1, .d (.sl (List.map iD v3))), (14, .d (.sl (List.map Row.D v2))), (15, .d (.int .i64 (v2.length : Int))), (16, .d (.int .i64 0))], []⟩ (by simp [c47] <;> omega) (by simp [c47] <;> omega) ?_
  refine Walk.iter (σ := Int) (fun g => ⟨[(1, .d (.sl (List.map iD v3))), (14, .d (.sl (List.map Row.D v2))), (15, .d (.int .i64 (v2.length : Int))), (16, .d (.int .i64 g))], []⟩) (fun g : Int => blueprint_Dead_l0 v2 v3 g) _ (fun v18 y91 hx ih70 hr71 => ?_) 0 hx
  unfold blueprint_Dead_l0 at hx
  try dsimp only at hx ⊢
  refine Walk.seq (Walk.region' rfl fun K hK => ?_)
  simp only [go_sem, seval, c47]
  refine hK _ ?_
  clear hK K
  refine Walk.seq (Walk.condO rfl hx (fun c73 hx => ?_) (fun c73 hx => ?_))
  · refine Walk.skip (Walk.seq (Walk.block (Walk.seq (Walk.region' rfl fun K hK => ?_))))
    obtain ⟨v21, r74, a75, b76, c77, hx⟩ := rd_elim hx
    simp only [go_sem, seval, c47, c73, a75, b76, c77]
    repeat refine And.intro (by first | omega | (simp; done) | (simp; omega)) ?_
    refine hK _ ?_
    clear hK K
    refine Walk.seq (Walk.region' rfl fun K hK => ?_)
    obtain ⟨v22, h78, hx⟩ := bind_elim hx
    simp only [go_sem, seval, c47, c73, a75, b76, c77]
    refine VCl.pure rfl (by simp only [go_sem, seval, c47, c73, a75, b76, c77]; try simp) (blueprint_Span_ok v21.Coefs v21.Least v21.Most v3 _ h78) (by simp only [go_sem, seval, c47, c73, a75, b76, c77]; try simp) (by simp only [go_sem, seval, c47, c73, a75, b76, c77]; try simp) (by simp only [go_sem, seval, c47, c73, a75, b76, c77]; try simp) (by simp only [go_sem, seval, c47, c73, a75, b76, c77]; try simp) (by simp only [go_sem, seval, c47, c73, a75, b76, c77]; try simp) (by simp only [go_sem, seval, c47, c73, a75, b76, c77]; try simp) ?_
    simp only [go_sem, seval, c47, c73, a75, b76, c77]
    refine hK _ ?_
    clear hK K
    refine Walk.seq (Walk.region' rfl fun K hK => ?_)
    simp only [go_sem, seval, c47, c73, a75, b76, c77]
    refine VGdO hx (fun g79 hx => ?_) (fun g79 hx => ?_)
    · simp only [go_sem, seval, c47, c73, a75, b76, c77, g79]
      refine VGdO hx (fun g80 hx => ?_) (fun g80 hx => ?_)
      · simp only [go_sem, seval, c47, c73, a75, b76, c77, g79, g80]
        refine hK _ ?_
        clear hK K
        refine Walk.condT rfl (Walk.seq (Walk.region' rfl fun K hK => ?_))
        simp only [go_sem, seval, c47, c73, a75, b76, c77, g79, g80]
        refine hK _ ?_
        clear hK K
        obtain ⟨z81, e82, hx⟩ := exit_elim hx
        rw [hr71 z81 e82] at hx
        obtain rfl := Option.some.inj hx
        exact Walk.ret ⟨by simp [c47, c73, a75, b76, c77, g79, g80], by simp [c47, c73, a75, b76, c77, g79, g80]⟩
      simp only [go_sem, seval, c47, c73, a75, b76, c77, g79, g80]
      refine VGdO hx (fun g83 hx => ?_) (fun g83 hx => ?_)
      · simp only [go_sem, seval, c47, c73, a75, b76, c77, g79, g80, g83]
        refine hK _ ?_
        clear hK K
        refine Walk.condT rfl (Walk.seq (Walk.region' rfl fun K hK => ?_))
        simp only [go_sem, seval, c47, c73, a75, b76, c77, g79, g80, g83]
        refine hK _ ?_
        clear hK K
        obtain ⟨z84, e85, hx⟩ := exit_elim hx
        rw [hr71 z84 e85] at hx
        obtain rfl := Option.some.inj hx
        exact Walk.ret ⟨by simp [c47, c73, a75, b76, c77, g79, g80, g83], by simp [c47, c73, a75, b76, c77, g79, g80, g83]⟩
      simp only [go_sem, seval, c47, c73, a75, b76, c77, g79, g80, g83]
      refine hK _ ?_
      clear hK K
      refine Walk.condO rfl hx (fun c86 hx => ?_) (fun c86 hx => ?_)
      · refine Walk.seq (Walk.region' rfl fun K hK => ?_)
        simp only [go_sem, seval, c47, c73, a75, b76, c77, g79, g80, g83, c86]
        refine hK _ ?_
        clear hK K
        obtain ⟨z87, e88, hx⟩ := exit_elim hx
        rw [hr71 z87 e88] at hx
        obtain rfl := Option.some.inj hx
        exact Walk.ret ⟨by simp [c47, c73, a75, b76, c77, g79, g80, g83, c86], by simp [c47, c73, a75, b76, c77, g79, g80, g83, c86]⟩
      refine Walk.skip (Walk.inBlock (Walk.region' rfl fun K hK => ?_))
      simp only [go_sem, seval, c47, c73, a75, b76, c77, g79, g80, g83, c86]
      refine hK _ ?_
      clear hK K
      exact Walk.weaken _ (by simp [c47, c73, a75, b76, c77, g79, g80, g83, c86] <;> omega) (by simp [c47, c73, a75, b76, c77, g79, g80, g83, c86] <;> omega) (ih70 _ (cont_elim hx))
    simp only [go_sem, seval, c47, c73, a75, b76, c77, g79]
    refine hK _ ?_
    clear hK K
    refine Walk.condF rfl (Walk.skip (Walk.inBlock (Walk.region' rfl fun K hK => ?_)))
    simp only [go_sem, seval, c47, c73, a75, b76, c77, g79]
    refine hK _ ?_
    clear hK K
    exact Walk.weaken _ (by simp [c47, c73, a75, b76, c77, g79] <;> omega) (by simp [c47, c73, a75, b76, c77, g79] <;> omega) (ih70 _ (cont_elim hx))
  refine Walk.exit rfl ?_
  obtain ⟨z89, e90, hx⟩ := exit_elim hx
  rw [hr71 z89 e90] at hx
  refine Walk.seq (Walk.region' rfl fun K hK => ?_)
  simp only [go_sem, seval, c47, c73]
  refine hK _ ?_
  clear hK K
  obtain rfl := Option.some.inj hx
  exact Walk.ret ⟨by simp [c47, c73], by simp [c47, c73]⟩
end Go.AX

