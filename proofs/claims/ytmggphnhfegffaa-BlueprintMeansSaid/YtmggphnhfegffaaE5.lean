import Derived.Test.YtmggphnhfegffaaE4
set_option linter.unusedVariables false
set_option linter.unusedSimpArgs false
set_option maxRecDepth 20000
set_option maxHeartbeats 4000000
namespace Go.AX
open Go.Proofs
attribute [local simp] take_map_len subE subH eget hget upE upV upH upO_refl upO_box upVs freshE freshH freshO AV.ids AV.idsL ids_box ids_arr frE frV_refl frV_arr frH frO_refl frO_box frVs newOk evalA AV.viewXs AV.viewX AV.viewXP AV.viewXPs AV.viewPs AV.viewP AV.flat AV.flatL D.flat arrsOnly flatObjs newNames subOf closedIn allSome dstOk newOrOld avD avDp zv_i64 zv_u8 zv_bool zv_nils zv_nilp zv_str retAV aLoad cut TI.isAgg nlE nlH nlO_refl nlO_box nlVs nlV_refl nlV_nil iD uD bD tD lD List.map_set ti2 ti3 ti4 ti5 ti6 ti7 ti8 ti9 ti10 ti11 ti12 ti13 ti14 ti15 ti16 ti17 ti18 ti19 ti21 ti22 ti23 ti25 ti26 ti27 ti31 ti32 ti41 ti51 ti52 ti53 ti54 ti56 ti58 ti60 ti61 ti62 ti67 ti68 ti71 ti72 ti79 ti80 ti81 ti82 ti83 ti84 ti85 ti89 ti93 ti94 ti95 ti110 ti124 ti125 ti126 ti127 ti128 ti129 ti130 ti131 ti133 ti134 ti135 ti136 ti137 Row.D TRange.D Ref.D Form.D Part.D TItem.D
attribute [local go_sem] V1_none V1_some V_nil V_move V_assign V_pick V_bin V_un V_extract V_makeFunc V_convert V_nilCheck V_fieldAddr V_field V_load V_store V_indexAddr V_index V_slice V_slice0 V_alloc V_box V_build V_buildSlice V_makeSlice V_len V_min V_max V_append V_call V_guard VGs_some VG_tt VG_ff VG_tf VG_ft VG_u gslot ok fail po so aNew dstOk freshU addLog_none' addLog_some' St.step putL evalA eget hget argE freshE freshO freshH AV.ids AV.idsL AV.ok1 AV.cells ids_box ids_arr liveBox liveArr isArr aPick aBin aUn aExtract aMakeFunc aConvert aNilCheck aFieldAddr aField cut aLen aIndexAddr aMin aMax aIndex bnd isInt aSlice aSlice0 aLoad aAlloc aBox aStore splice aMake updIds newIds zv_i64 zv_u8 zv_bool zv_nils zv_nilp cond_bool cond_int TI.isAgg TK.isSl TK.el okL avDps avDp avD List.map_cons List.map_nil List.append_nil List.nil_append List.cons_append List.length_cons List.length_nil List.take_succ_cons List.take_zero List.drop_succ_cons List.drop_zero List.take_nil List.drop_nil List.headD_cons List.getD_cons_zero List.getD_cons_succ List.mem_cons List.not_mem_nil List.getElem?_cons_zero List.getElem?_cons_succ List.toList_toArray Option.getD_some Option.getD_none Option.bind_some Option.bind_none Option.map_some Option.map_none Option.getD Option.toList Nat.zero_add Nat.add_zero Nat.zero_le Nat.le_refl if_true if_false ite_self true_and and_true false_and and_false true_or or_true false_or or_false not_true_eq_false not_false_eq_true ne_eq cond_true cond_false Bool.true_eq_false Bool.false_eq_true forall_const decide_true decide_false implies_true true_implies and_self or_self Nat.succ_ne_zero Int.toNat_natCast Int.natCast_nonneg List.length_map decide_eq_true_eq AV.views AV.view AV.viewPs AV.viewP arrsOnly newNames List.length_append List.append_assoc Bool.not_true Bool.not_false AV.ok2 aBuild fillR fillP aBuildSlice dense elP aAppend esOf esOfP List.forall_mem_cons forall_eq_or_imp forall_eq zD zDp map_take' map_drop' iD uD bD tD lD iD_len uD_len bD_len tD_len lD_len LB Int.cast_ofNat_Int Int.natCast_zero Int.natCast_one head_len all_len List.head?_cons List.head?_nil Bool.not_not eq_self List.take_length zv_str aConv byteOf isByte map_bcell bytes_all str_map cellsEq cellsP AV.kd Bool.and_true Bool.true_and Bool.and_false Bool.false_and ti2 ti3 ti4 ti5 ti6 ti7 ti8 ti9 ti10 ti11 ti12 ti13 ti14 ti15 ti16 ti17 ti18 ti19 ti21 ti22 ti23 ti25 ti26 ti27 ti31 ti32 ti41 ti51 ti52 ti53 ti54 ti56 ti58 ti60 ti61 ti62 ti67 ti68 ti71 ti72 ti79 ti80 ti81 ti82 ti83 ti84 ti85 ti89 ti93 ti94 ti95 ti110 ti124 ti125 ti126 ti127 ti128 ti129 ti130 ti131 ti133 ti134 ti135 ti136 ti137 Row.D TRange.D Ref.D Form.D Part.D TItem.D Row.D_len TRange.D_len Ref.D_len Form.D_len Part.D_len TItem.D_len zs_ zs_48_49_50_51_52_53_54_55_56_57_48_49_50_51_52_53_54_55_56_57_48_49_50_51_52_53_54_55_56_57_48_49_50_51_52_53_54_55_56_57_120 zs_113 zs_116_97_98_9 eqf85_00
noncomputable def blueprint_ranges_1 (v1 : Int) (v2 : Int) (v3 : Int) (v4 : Int) (v5 : Int) (v6 : Int) : Option (Bool) :=
  some (decide (v1 = v4) : Bool)
theorem blueprint_ranges_1_ok (v1 : Int) (v2 : Int) (v3 : Int) (v4 : Int) (v5 : Int) (v6 : Int) (r : Bool) (hx : blueprint_ranges_1 v1 v2 v3 v4 v5 v6 = some r) :
    ACalls Try.prog 92 [.agg [.d (.int .i64 v1), .d (.int .i64 v2), .d (.int .i64 v3)], .box 0 0] [(0, some (.box [.d (.int .i64 v4), .d (.int .i64 v5), .d (.int .i64 v6)]))] (.d (.bool r)) [(0, some (.box [.d (.int .i64 v4), .d (.int .i64 v5), .d (.int .i64 v6)]))] := by
  refine ACalls.of_sem (n := 9) 1 [3] (fn := Try.f92) Try.func92 rfl rfl (.one rfl) rfl (by simp) (by intro i; simp only [hget]; (repeat' split) <;> simp <;> omega) ?_
  unfold blueprint_ranges_1 at hx
  refine Walk.seq (Walk.region' rfl fun K hK => ?_)
  simp only [go_sem, seval]
  refine hK _ ?_
  clear hK K
  refine Walk.seq (Walk.region' rfl fun K hK => ?_)
  simp only [go_sem, seval]
  refine hK _ ?_
  clear hK K
  obtain rfl := Option.some.inj hx
  exact Walk.ret ⟨by simp, by simp⟩
noncomputable def slices_IndexFunc_Range__ranges_1_l0 (v1 : List TRange) (v2 : Int) (v3 : Int) (v4 : Int) (v15 : Int) : Option ((Int) ⊕ (Int)) :=
  bif decide (v15 < (v1.length : Int)) then ((rd v1 v15).bind fun v18 => (blueprint_ranges_1 v18.Index v18.Least v18.Most v2 v3 v4).bind fun v19 => bif v19 then (exitO (some (v15 : Int))) else (contO (IntKind.i64.wrap (v15 + 1) : Int))) else (exitO (some (-1 : Int)))
noncomputable def slices_IndexFunc_Range__ranges_1 (v1 : List TRange) (v2 : Int) (v3 : Int) (v4 : Int) : Option (Int) :=
  iter (fun g : Int => slices_IndexFunc_Range__ranges_1_l0 v1 v2 v3 v4 g) 0
theorem slices_IndexFunc_Range__ranges_1_ok (v1 : List TRange) (v2 : Int) (v3 : Int) (v4 : Int) (r : Int) (hx : slices_IndexFunc_Range__ranges_1 v1 v2 v3 v4 = some r) :
    ACalls Try.prog 107 [.d (.sl (List.map TRange.D v1)), .fn 92 [.box 0 0]] [(0, some (.box [.d (.int .i64 v2), .d (.int .i64 v3), .d (.int .i64 v4)]))] (.d (.int .i64 r)) [(0, some (.box [.d (.int .i64 v2), .d (.int .i64 v3), .d (.int .i64 v4)]))] := by
  refine ACalls.of_sem (n := 19) 1 [4] (fn := Try.f107) Try.func107 rfl rfl (.one rfl) rfl (by simp) (by intro i; simp only [hget]; (repeat' split) <;> simp <;> omega) ?_
  unfold slices_IndexFunc_Range__ranges_1 at hx
  refine Walk.seq (Walk.region' rfl fun K hK => ?_)
  simp only [go_sem, seval]
  refine hK _ ?_
  clear hK K
  refine Walk.seq (Walk.seq (Walk.region' rfl fun K hK => ?_))
  simp only [go_sem, seval]
  refine hK _ ?_
  clear hK K
  refine Walk.block (Walk.loop ?_)
  refine Walk.weaken ⟨[(0, .d (.sl (List.map TRange.D v1))), (1, .fn 92 [.box 0 0]), (7, .d (.int .i64 (v1.length : Int))), (8, .d (.int .i64 0))], [(0, some (.box [.d (.int .i64 v2), .d (.int .i64 v3), .d (.int .i64 v4)]))]⟩ (by simp <;> omega) (by simp <;> omega) ?_
  refine Walk.iter (σ := Int) (fun g => ⟨[(0, .d (.sl (List.map TRange.D v1))), (1, .fn 92 [.box 0 0]), (7, .d (.int .i64 (v1.length : Int))), (8, .d (.int .i64 g))], [(0, some (.box [.d (.int .i64 v2), .d (.int .i64 v3), .d (.int .i64 v4)]))]⟩) (fun g : Int => slices_IndexFunc_Range__ranges_1_l0 v1 v2 v3 v4 g) _ (fun v15 y59 hx ih45 hr46 => ?_) 0 hx
  unfold slices_IndexFunc_Range__ranges_1_l0 at hx
  try dsimp only at hx ⊢
  refine Walk.seq (Walk.region' rfl fun K hK => ?_)
  simp only [go_sem, seval]
  refine hK _ ?_
  clear hK K
  refine Walk.seq (Walk.condO rfl hx (fun c48 hx => ?_) (fun c48 hx => ?_))
  · refine Walk.skip (Walk.seq (Walk.block (Walk.seq (Walk.region' rfl fun K hK => ?_))))
    simp only [go_sem, seval, c48]
    refine hK _ ?_
    clear hK K
    refine Walk.seq (Walk.region' rfl fun K hK => ?_)
    obtain ⟨v18, r49, a50, b51, c52, hx⟩ := rd_elim hx
    obtain ⟨v19, h53, hx⟩ := bind_elim hx
    simp only [go_sem, seval, c48, a50, b51, c52]
    repeat refine And.intro (by first | omega | (simp; done) | (simp; omega)) ?_
    refine VCl.sub [(0, some (.box [.d (.int .i64 v2), .d (.int .i64 v3), .d (.int .i64 v4)]))] [] rfl (by simp only [go_sem, seval, AV.viewXs, AV.viewX, avD, c48, a50, b51, c52]; try simp) (blueprint_ranges_1_ok v18.Index v18.Least v18.Most v2 v3 v4 _ h53) (by simp [c48, a50, b51, c52]) (by simp [c48, a50, b51, c52]) (by simp [c48, a50, b51, c52]) (by simp [c48, a50, b51, c52]) (by simp [c48, a50, b51, c52]) (by simp [c48, a50, b51, c52]) (by simp [c48, a50, b51, c52]) (by simp [c48, a50, b51, c52]) (by simp [c48, a50, b51, c52]) (by simp [c48, a50, b51, c52]) ?_
    simp only [go_sem, seval, c48, a50, b51, c52]
    refine hK _ ?_
    clear hK K
    refine Walk.weaken ⟨[(0, .d (.sl (List.map TRange.D v1))), (1, .fn 92 [.box 0 0]), (5, .d (.int .i64 v15)), (7, .d (.int .i64 (v1.length : Int))), (8, .d (.int .i64 v15)), (16, .d (.bool v19))], [(0, some (.box [.d (.int .i64 v2), .d (.int .i64 v3), .d (.int .i64 v4)]))]⟩ (by simp [c48, a50, b51, c52] <;> omega) (by simp [c48, a50, b51, c52] <;> omega) ?_
    refine Walk.condO rfl hx (fun c54 hx => ?_) (fun c54 hx => ?_)
    · refine Walk.seq (Walk.region' rfl fun K hK => ?_)
      simp only [go_sem, seval, c48, a50, b51, c52, c54]
      refine hK _ ?_
      clear hK K
      obtain ⟨z55, e56, hx⟩ := exit_elim hx
      rw [hr46 z55 e56] at hx
      obtain rfl := Option.some.inj hx
      exact Walk.ret ⟨by simp [c48, a50, b51, c52, c54], by simp [c48, a50, b51, c52, c54]⟩
    refine Walk.skip (Walk.inBlock (Walk.region' rfl fun K hK => ?_))
    simp only [go_sem, seval, c48, a50, b51, c52, c54]
    refine hK _ ?_
    clear hK K
    exact Walk.weaken _ (by simp [c48, a50, b51, c52, c54] <;> omega) (by simp [c48, a50, b51, c52, c54] <;> omega) (ih45 _ (cont_elim hx))
  refine Walk.exit rfl ?_
  obtain ⟨z57, e58, hx⟩ := exit_elim hx
  rw [hr46 z57 e58] at hx
  refine Walk.seq (Walk.region' rfl fun K hK => ?_)
  simp only [go_sem, seval, c48]
  refine hK _ ?_
  clear hK K
  obtain rfl := Option.some.inj hx
  exact Walk.ret ⟨by simp [c48], by simp [c48]⟩
noncomputable def slices_ContainsFunc_Range__ranges_1 (v1 : List TRange) (v2 : Int) (v3 : Int) (v4 : Int) : Option (Bool) :=
  (slices_IndexFunc_Range__ranges_1 v1 v2 v3 v4).bind fun v7 => some (decide (v7 ≥ 0) : Bool)
theorem slices_ContainsFunc_Range__ranges_1_ok (v1 : List TRange) (v2 : Int) (v3 : Int) (v4 : Int) (r : Bool) (hx : slices_ContainsFunc_Range__ranges_1 v1 v2 v3 v4 = some r) :
    ACalls Try.prog 91 [.d (.sl (List.map TRange.D v1)), .fn 92 [.box 0 0]] [(0, some (.box [.d (.int .i64 v2), .d (.int .i64 v3), .d (.int .i64 v4)]))] (.d (.bool r)) [(0, some (.box [.d (.int .i64 v2), .d (.int .i64 v3), .d (.int .i64 v4)]))] := by
  refine ACalls.of_sem (n := 9) 1 [4] (fn := Try.f91) Try.func91 rfl rfl (.one rfl) rfl (by simp) (by intro i; simp only [hget]; (repeat' split) <;> simp <;> omega) ?_
  unfold slices_ContainsFunc_Range__ranges_1 at hx
  refine Walk.seq (Walk.region' rfl fun K hK => ?_)
  simp only [go_sem, seval]
  refine hK _ ?_
  clear hK K
  refine Walk.seq (Walk.region' rfl fun K hK => ?_)
  obtain ⟨v7, h2, hx⟩ := bind_elim hx
  simp only [go_sem, seval]
  refine VCl.sub [(0, some (.box [.d (.int .i64 v2), .d (.int .i64 v3), .d (.int .i64 v4)]))] [] rfl (by simp only [go_sem, seval, AV.viewXs, AV.viewX, avD]; try simp) (slices_IndexFunc_Range__ranges_1_ok v1 v2 v3 v4 _ h2) (by simp) (by simp) (by simp) (by simp) (by simp) (by simp) (by simp) (by simp) (by simp) (by simp) ?_
  simp only [go_sem, seval]
  refine hK _ ?_
  clear hK K
  refine Walk.weaken ⟨[(4, .d (.bool (decide (v7 ≥ 0))))], [(0, some (.box [.d (.int .i64 v2), .d (.int .i64 v3), .d (.int .i64 v4)]))]⟩ (by simp <;> omega) (by simp <;> omega) ?_
  obtain rfl := Option.some.inj hx
  exact Walk.ret ⟨by simp, by simp⟩
noncomputable def blueprint_ranges_l0 (v1 : List TRange) (v2 : Int) (v29 : Int) : Option ((Int) ⊕ (Int)) :=
  bif decide (v29 < (v1.length : Int)) then ((rd v1 v29).bind fun v36 => (blueprint_in (IntKind.i64.wrap (v2 - 1)) [v36.Index]).bind fun v39 => bif !v39 then (exitO (some (2 : Int))) else ((blueprint_in 200 [v36.Least, v36.Most]).bind fun v40 => bif !v40 then (exitO (some (2 : Int))) else (chk (0 ≤ v29 ∧ v29 ≤ (v1.length : Int)) ((slices_ContainsFunc_Range__ranges_1 ((v1.take (v29).toNat).drop 0) v36.Index v36.Least v36.Most).bind fun v41 => bif v41 then (exitO (some (5 : Int))) else (contO (IntKind.i64.wrap (v29 + 1) : Int)))))) else (exitO (some (0 : Int)))
noncomputable def blueprint_ranges (v1 : List TRange) (v2 : Int) : Option (Int) :=
  iter (fun g : Int => blueprint_ranges_l0 v1 v2 g) 0
theorem blueprint_ranges_ok (v1 : List TRange) (v2 : Int) (r : Int) (hx : blueprint_ranges v1 v2 = some r) :
    ACalls Try.prog 57 [.d (.sl (List.map TRange.D v1)), .d (.int .i64 v2)] [] (.d (.int .i64 r)) [] := by
  refine ACalls.of_sem (n := 36) 0 [4] (fn := Try.f57) Try.func57 rfl rfl (.one rfl) rfl (by simp) (by intro i; simp only [hget]; (repeat' split) <;> simp <;> omega) ?_
  unfold blueprint_ranges at hx
  refine Walk.seq (Walk.region' rfl fun K hK => ?_)
  simp only [go_sem, seval]
  refine hK _ ?_
  clear hK K
  refine Walk.seq (Walk.seq (Walk.region' rfl fun K hK => ?_))
  simp only [go_sem, seval]
  refine hK _ ?_
  clear hK K
  refine Walk.block (Walk.loop ?_)
  refine Walk.weaken ⟨[(0, .d (.sl (List.map TRange.D v1))), (1, .d (.int .i64 v2)), (7, .d (.sl (List.map TRange.D v1))), (8, .d (.int .i64 (v1.length : Int))), (9, .d (.int .i64 0))], []⟩ (by simp <;> omega) (by simp <;> omega) ?_
  refine Walk.iter (σ := Int) (fun g => ⟨[(0, .d (.sl (List.map TRange.D v1))), (1, .d (.int .i64 v2)), (7, .d (.sl (List.map TRange.D v1))), (8, .d (.int .i64 (v1.length : Int))), (9, .d (.int .i64 g))], []⟩) (fun g : Int => blueprint_ranges_l0 v1 v2 g) _ (fun v29 y129 hx ih100 hr101 => ?_) 0 hx
  unfold blueprint_ranges_l0 at hx
  try dsimp only at hx ⊢
  refine Walk.seq (Walk.region' rfl fun K hK => ?_)
  simp only [go_sem, seval]
  refine hK _ ?_
  clear hK K
  refine Walk.seq (Walk.condO rfl hx (fun c103 hx => ?_) (fun c103 hx => ?_))
  · refine Walk.skip (Walk.seq (Walk.block (Walk.seq (Walk.region' rfl fun K hK => ?_))))
    obtain ⟨v36, r104, a105, b106, c107, hx⟩ := rd_elim hx
    simp only [go_sem, seval, c103, a105, b106, c107]
    repeat refine And.intro (by first | omega | (simp; done) | (simp; omega)) ?_
    refine hK _ ?_
    clear hK K
    refine Walk.seq (Walk.seq (Walk.region' rfl fun K hK => ?_))
    obtain ⟨v39, h112, hx⟩ := bind_elim hx
    simp only [go_sem, seval, c103, a105, b106, c107]
    refine VCl.lent rfl (by simp only [go_sem, seval, c103, a105, b106, c107]; try simp) (blueprint_in_ok (IntKind.i64.wrap (v2 - 1)) [v36.Index] _ h112) (by simp [c103, a105, b106, c107]) (by simp [c103, a105, b106, c107]) (by simp [c103, a105, b106, c107]) (by simp [c103, a105, b106, c107]) (by simp [c103, a105, b106, c107]) (by simp [c103, a105, b106, c107]) (by simp [c103, a105, b106, c107]) ?_
    simp only [go_sem, seval, c103, a105, b106, c107]
    refine VGdO hx (fun g113 hx => ?_) (fun g113 hx => ?_)
    · simp only [go_sem, seval, c103, a105, b106, c107, g113]
      refine hK _ ?_
      clear hK K
      refine Walk.weaken ⟨[(0, .d (.sl (List.map TRange.D v1))), (1, .d (.int .i64 v2)), (5, .d (.int .i64 v29)), (6, .box 6 0), (7, .d (.sl (List.map TRange.D v1))), (8, .d (.int .i64 (v1.length : Int))), (9, .d (.int .i64 v29)), (29, .d (.bool true))], [(6, some (.box [.d (.int .i64 v36.Index), .d (.int .i64 v36.Least), .d (.int .i64 v36.Most)]))]⟩ (by simp [c103, a105, b106, c107, g113] <;> omega) (by simp [c103, a105, b106, c107, g113] <;> omega) ?_
      refine Walk.condT rfl (Walk.seq (Walk.region' rfl fun K hK => ?_))
      simp only [go_sem, seval, c103, a105, b106, c107, g113]
      refine hK _ ?_
      clear hK K
      obtain ⟨z114, e115, hx⟩ := exit_elim hx
      rw [hr101 z114 e115] at hx
      obtain rfl := Option.some.inj hx
      exact Walk.ret ⟨by simp [c103, a105, b106, c107, g113], by simp [c103, a105, b106, c107, g113]⟩
    obtain ⟨v40, h116, hx⟩ := bind_elim hx
    simp only [go_sem, seval, c103, a105, b106, c107, g113]
    refine VCl.lent rfl (by simp only [go_sem, seval, c103, a105, b106, c107, g113]; try simp) (blueprint_in_ok 200 [v36.Least, v36.Most] _ h116) (by simp [c103, a105, b106, c107, g113]) (by simp [c103, a105, b106, c107, g113]) (by simp [c103, a105, b106, c107, g113]) (by simp [c103, a105, b106, c107, g113]) (by simp [c103, a105, b106, c107, g113]) (by simp [c103, a105, b106, c107, g113]) (by simp [c103, a105, b106, c107, g113]) ?_
    simp only [go_sem, seval, c103, a105, b106, c107, g113]
    refine hK _ ?_
    clear hK K
    refine Walk.weaken ⟨[(0, .d (.sl (List.map TRange.D v1))), (1, .d (.int .i64 v2)), (5, .d (.int .i64 v29)), (6, .box 6 0), (7, .d (.sl (List.map TRange.D v1))), (8, .d (.int .i64 (v1.length : Int))), (9, .d (.int .i64 v29)), (29, .d (.bool (!v40)))], [(6, some (.box [.d (.int .i64 v36.Index), .d (.int .i64 v36.Least), .d (.int .i64 v36.Most)]))]⟩ (by simp [c103, a105, b106, c107, g113] <;> omega) (by simp [c103, a105, b106, c107, g113] <;> omega) ?_
    refine Walk.condO rfl hx (fun c118 hx => ?_) (fun c118 hx => ?_)
    · refine Walk.seq (Walk.region' rfl fun K hK => ?_)
      simp only [go_sem, seval, c103, a105, b106, c107, g113, c118]
      refine hK _ ?_
      clear hK K
      obtain ⟨z119, e120, hx⟩ := exit_elim hx
      rw [hr101 z119 e120] at hx
      obtain rfl := Option.some.inj hx
      exact Walk.ret ⟨by simp [c103, a105, b106, c107, g113, c118], by simp [c103, a105, b106, c107, g113, c118]⟩
    refine Walk.skip (Walk.seq (Walk.region' rfl fun K hK => ?_))
    obtain ⟨k121, hx⟩ := chk_elim hx
    obtain ⟨v41, h122, hx⟩ := bind_elim hx
    have w123 := ((slices_ContainsFunc_Range__ranges_1_ok ((v1.take (v29).toNat).drop 0) v36.Index v36.Least v36.Most _ h122).swap 0 6)
    simp only [renE, renL, AV.ren, AV.rens, AObj.ren, swp, Option.map_some, reduceIte, Nat.reduceEqDiff] at w123
    simp only [go_sem, seval, c103, a105, b106, c107, g113, c118, k121]
    repeat refine And.intro (by first | omega | (simp; done) | (simp; omega)) ?_
    refine VCl.sub [(6, some (.box [.d (.int .i64 v36.Index), .d (.int .i64 v36.Least), .d (.int .i64 v36.Most)]))] [] rfl (by simp only [go_sem, seval, AV.viewXs, AV.viewX, avD, c103, a105, b106, c107, g113, c118, k121]; try simp) (w123) (by simp [c103, a105, b106, c107, g113, c118, k121]) (by simp [c103, a105, b106, c107, g113, c118, k121]) (by simp [c103, a105, b106, c107, g113, c118, k121]) (by simp [c103, a105, b106, c107, g113, c118, k121]) (by simp [c103, a105, b106, c107, g113, c118, k121]) (by simp [c103, a105, b106, c107, g113, c118, k121]) (by simp [c103, a105, b106, c107, g113, c118, k121]) (by simp [c103, a105, b106, c107, g113, c118, k121]) (by simp [c103, a105, b106, c107, g113, c118, k121]) (by simp [c103, a105, b106, c107, g113, c118, k121]) ?_
    simp only [go_sem, seval, c103, a105, b106, c107, g113, c118, k121]
    refine hK _ ?_
    clear hK K
    refine Walk.weaken ⟨[(0, .d (.sl (List.map TRange.D v1))), (1, .d (.int .i64 v2)), (7, .d (.sl (List.map TRange.D v1))), (8, .d (.int .i64 (v1.length : Int))), (9, .d (.int .i64 v29)), (34, .d (.bool v41))], []⟩ (by simp [c103, a105, b106, c107, g113, c118, k121] <;> omega) (by simp [c103, a105, b106, c107, g113, c118, k121] <;> omega) ?_
    refine Walk.condO rfl hx (fun c124 hx => ?_) (fun c124 hx => ?_)
    · refine Walk.seq (Walk.region' rfl fun K hK => ?_)
      simp only [go_sem, seval, c103, a105, b106, c107, g113, c118, k121, c124]
      refine hK _ ?_
      clear hK K
      obtain ⟨z125, e126, hx⟩ := exit_elim hx
      rw [hr101 z125 e126] at hx
      obtain rfl := Option.some.inj hx
      exact Walk.ret ⟨by simp [c103, a105, b106, c107, g113, c118, k121, c124], by simp [c103, a105, b106, c107, g113, c118, k121, c124]⟩
    refine Walk.skip (Walk.inBlock (Walk.region' rfl fun K hK => ?_))
    simp only [go_sem, seval, c103, a105, b106, c107, g113, c118, k121, c124]
    refine hK _ ?_
    clear hK K
    exact Walk.weaken _ (by simp [c103, a105, b106, c107, g113, c118, k121, c124] <;> omega) (by simp [c103, a105, b106, c107, g113, c118, k121, c124] <;> omega) (ih100 _ (cont_elim hx))
  refine Walk.exit rfl ?_
  obtain ⟨z127, e128, hx⟩ := exit_elim hx
  rw [hr101 z127 e128] at hx
  refine Walk.seq (Walk.region' rfl fun K hK => ?_)
  simp only [go_sem, seval, c103]
  refine hK _ ?_
  clear hK K
  obtain rfl := Option.some.inj hx
  exact Walk.ret ⟨by simp [c103], by simp [c103]⟩
noncomputable def blueprint_Check (v1 : Int) (v2 : Int) (v3 : Int) (v4 : Int) (v5 : List TRange) (v6 : List TRange) (v7 : List Int) (v8 : List Form) (v9 : Int) : Option (Int) :=
  (blueprint_in 200 [v1, v2, v3, v4]).bind fun v26 => bif !v26 then (some (2 : Int)) else ((blueprint_in 12 [v9]).bind fun v27 => bif !v27 then (some (2 : Int)) else (bif decide ((v5.length : Int) > 16) then (some (3 : Int)) else (bif decide ((v6.length : Int) > 6) then (some (3 : Int)) else (bif decide ((v7.length : Int) > 12) then (some (3 : Int)) else (bif decide ((v8.length : Int) > 4) then (some (3 : Int)) else ((blueprint_ranges v5 16).bind fun v29 => bif decide (¬ v29 = 0) then (some (v29 : Int)) else ((blueprint_ranges v6 6).bind fun v31 => bif decide (¬ v31 = 0) then (some (v31 : Int)) else ((blueprint_ascending v7).bind fun v32 => bif !v32 then (some (9 : Int)) else (some (0 : Int))))))))))
theorem blueprint_Check_ok (v1 : Int) (v2 : Int) (v3 : Int) (v4 : Int) (v5 : List TRange) (v6 : List TRange) (v7 : List Int) (v8 : List Form) (v9 : Int) (r : Int) (hx : blueprint_Check v1 v2 v3 v4 v5 v6 v7 v8 v9 = some r) :
    ACalls Try.prog 36 [.agg [.d (.int .i64 v1), .d (.int .i64 v2), .d (.int .i64 v3), .d (.int .i64 v4), .d (.sl (List.map TRange.D v5)), .d (.sl (List.map TRange.D v6)), .d (.sl (List.map iD v7)), .d (.sl (List.map Form.D v8)), .d (.int .i64 v9)]] [] (.d (.int .i64 r)) [] := by
  refine ACalls.of_sem (n := 63) 0 [2] (fn := Try.f36) Try.func36 rfl rfl (.one rfl) rfl (by simp) (by intro i; simp only [hget]; (repeat' split) <;> simp <;> omega) ?_
  unfold blueprint_Check at hx
  refine Walk.seq (Walk.region' rfl fun K hK => ?_)
  simp only [go_sem, seval]
  refine hK _ ?_
  clear hK K
  refine Walk.seq (Walk.block (Walk.seq (Walk.region' rfl fun K hK => ?_)))
  obtain ⟨v26, h65, hx⟩ := bind_elim hx
  simp only [go_sem, seval]
  refine VCl.lent rfl (by simp only [go_sem, seval]; try simp) (blueprint_in_ok 200 [v1, v2, v3, v4] _ h65) (by simp) (by simp) (by simp) (by simp) (by simp) (by simp) (by simp) ?_
  simp only [go_sem, seval]
  refine VGdO hx (fun g66 hx => ?_) (fun g66 hx => ?_)
  · simp only [go_sem, seval, g66]
    refine hK _ ?_
    clear hK K
    refine Walk.weaken ⟨[(1, .box 1 0), (5, .d (.bool true))], [(1, some (.box [.d (.int .i64 v1), .d (.int .i64 v2), .d (.int .i64 v3), .d (.int .i64 v4), .d (.sl (List.map TRange.D v5)), .d (.sl (List.map TRange.D v6)), .d (.sl (List.map iD v7)), .d (.sl (List.map Form.D v8)), .d (.int .i64 v9)]))]⟩ (by simp [g66] <;> omega) (by simp [g66] <;> omega) ?_
    refine Walk.condT rfl (Walk.seq (Walk.region' rfl fun K hK => ?_))
    simp only [go_sem, seval, g66]
    refine hK _ ?_
    clear hK K
    obtain rfl := Option.some.inj hx
    exact Walk.ret ⟨by simp [g66], by simp [g66]⟩
  obtain ⟨v27, h67, hx⟩ := bind_elim hx
  simp only [go_sem, seval, g66]
  refine VCl.lent rfl (by simp only [go_sem, seval, g66]; try simp) (blueprint_in_ok 12 [v9] _ h67) (by simp [g66]) (by simp [g66]) (by simp [g66]) (by simp [g66]) (by simp [g66]) (by simp [g66]) (by simp [g66]) ?_
  simp only [go_sem, seval, g66]
  refine hK _ ?_
  clear hK K
  refine Walk.weaken ⟨[(1, .box 1 0), (5, .d (.bool (!v27)))], [(1, some (.box [.d (.int .i64 v1), .d (.int .i64 v2), .d (.int .i64 v3), .d (.int .i64 v4), .d (.sl (List.map TRange.D v5)), .d (.sl (List.map TRange.D v6)), .d (.sl (List.map iD v7)), .d (.sl (List.map Form.D v8)), .d (.int .i64 v9)]))]⟩ (by simp [g66] <;> omega) (by simp [g66] <;> omega) ?_
  refine Walk.condO rfl hx (fun c73 hx => ?_) (fun c73 hx => ?_)
  · refine Walk.seq (Walk.region' rfl fun K hK => ?_)
    simp only [go_sem, seval, g66, c73]
    refine hK _ ?_
    clear hK K
    obtain rfl := Option.some.inj hx
    exact Walk.ret ⟨by simp [g66, c73], by simp [g66, c73]⟩
  refine Walk.seq (Walk.region' rfl fun K hK => ?_)
  simp only [go_sem, seval, g66, c73]
  refine VGdO hx (fun g78 hx => ?_) (fun g78 hx => ?_)
  · simp only [go_sem, seval, g66, c73, g78]
    refine hK _ ?_
    clear hK K
    refine Walk.condT rfl (Walk.seq (Walk.region' rfl fun K hK => ?_))
    simp only [go_sem, seval, g66, c73, g78]
    refine hK _ ?_
    clear hK K
    obtain rfl := Option.some.inj hx
    exact Walk.ret ⟨by simp [g66, c73, g78], by simp [g66, c73, g78]⟩
  simp only [go_sem, seval, g66, c73, g78]
  refine VGdO hx (fun g79 hx => ?_) (fun g79 hx => ?_)
  · simp only [go_sem, seval, g66, c73, g78, g79]
    refine hK _ ?_
    clear hK K
    refine Walk.condT rfl (Walk.seq (Walk.region' rfl fun K hK => ?_))
    simp only [go_sem, seval, g66, c73, g78, g79]
    refine hK _ ?_
    clear hK K
    obtain rfl := Option.some.inj hx
    exact Walk.ret ⟨by simp [g66, c73, g78, g79], by simp [g66, c73, g78, g79]⟩
  simp only [go_sem, seval, g66, c73, g78, g79]
  refine VGdO hx (fun g80 hx => ?_) (fun g80 hx => ?_)
  · simp only [go_sem, seval, g66, c73, g78, g79, g80]
    refine hK _ ?_
    clear hK K
    refine Walk.condT rfl (Walk.seq (Walk.region' rfl fun K hK => ?_))
    simp only [go_sem, seval, g66, c73, g78, g79, g80]
    refine hK _ ?_
    clear hK K
    obtain rfl := Option.some.inj hx
    exact Walk.ret ⟨by simp [g66, c73, g78, g79, g80], by simp [g66, c73, g78, g79, g80]⟩
  simp only [go_sem, seval, g66, c73, g78, g79, g80]
  refine hK _ ?_
  clear hK K
  refine Walk.condO rfl hx (fun c82 hx => ?_) (fun c82 hx => ?_)
  · refine Walk.seq (Walk.region' rfl fun K hK => ?_)
    simp only [go_sem, seval, g66, c73, g78, g79, g80, c82]
    refine hK _ ?_
    clear hK K
    obtain rfl := Option.some.inj hx
    exact Walk.ret ⟨by simp [g66, c73, g78, g79, g80, c82], by simp [g66, c73, g78, g79, g80, c82]⟩
  refine Walk.skip (Walk.inBlock (Walk.seq (Walk.seq (Walk.region' rfl fun K hK => ?_))))
  obtain ⟨v29, h85, hx⟩ := bind_elim hx
  simp only [go_sem, seval, g66, c73, g78, g79, g80, c82]
  refine VCl.pure rfl (by simp only [go_sem, seval, g66, c73, g78, g79, g80, c82]; try simp) (blueprint_ranges_ok v5 16 _ h85) (by simp only [go_sem, seval, g66, c73, g78, g79, g80, c82]; try simp) (by simp only [go_sem, seval, g66, c73, g78, g79, g80, c82]; try simp) (by simp only [go_sem, seval, g66, c73, g78, g79, g80, c82]; try simp) (by simp only [go_sem, seval, g66, c73, g78, g79, g80, c82]; try simp) (by simp only [go_sem, seval, g66, c73, g78, g79, g80, c82]; try simp) (by simp only [go_sem, seval, g66, c73, g78, g79, g80, c82]; try simp) ?_
  simp only [go_sem, seval, g66, c73, g78, g79, g80, c82]
  refine hK _ ?_
  clear hK K
  refine Walk.seq (Walk.region' rfl fun K hK => ?_)
  simp only [go_sem, seval, g66, c73, g78, g79, g80, c82]
  refine hK _ ?_
  clear hK K
  refine Walk.condO rfl hx (fun c88 hx => ?_) (fun c88 hx => ?_)
  · refine Walk.seq (Walk.region' rfl fun K hK => ?_)
    simp only [go_sem, seval, g66, c73, g78, g79, g80, c82, c88]
    refine hK _ ?_
    clear hK K
    obtain rfl := Option.some.inj hx
    exact Walk.ret ⟨by simp [g66, c73, g78, g79, g80, c82, c88], by simp [g66, c73, g78, g79, g80, c82, c88]⟩
  refine Walk.skip (Walk.seq (Walk.seq (Walk.region' rfl fun K hK => ?_)))
  obtain ⟨v31, h91, hx⟩ := bind_elim hx
  simp only [go_sem, seval, g66, c73, g78, g79, g80, c82, c88]
  refine VCl.pure rfl (by simp only [go_sem, seval, g66, c73, g78, g79, g80, c82, c88]; try simp) (blueprint_ranges_ok v6 6 _ h91) (by simp only [go_sem, seval, g66, c73, g78, g79, g80, c82, c88]; try simp) (by simp only [go_sem, seval, g66, c73, g78, g79, g80, c82, c88]; try simp) (by simp only [go_sem, seval, g66, c73, g78, g79, g80, c82, c88]; try simp) (by simp only [go_sem, seval, g66, c73, g78, g79, g80, c82, c88]; try simp) (by simp only [go_sem, seval, g66, c73, g78, g79, g80, c82, c88]; try simp) (by simp only [go_sem, seval, g66, c73, g78, g79, g80, c82, c88]; try simp) ?_
  simp only [go_sem, seval, g66, c73, g78, g79, g80, c82, c88]
  refine hK _ ?_
  clear hK K
  refine Walk.seq (Walk.region' rfl fun K hK => ?_)
  simp only [go_sem, seval, g66, c73, g78, g79, g80, c82, c88]
  refine hK _ ?_
  clear hK K
  refine Walk.condO rfl hx (fun c94 hx => ?_) (fun c94 hx => ?_)
  · refine Walk.seq (Walk.region' rfl fun K hK => ?_)
    simp only [go_sem, seval, g66, c73, g78, g79, g80, c82, c88, c94]
    refine hK _ ?_
    clear hK K
    obtain rfl := Option.some.inj hx
    exact Walk.ret ⟨by simp [g66, c73, g78, g79, g80, c82, c88, c94], by simp [g66, c73, g78, g79, g80, c82, c88, c94]⟩
  refine Walk.skip (Walk.seq (Walk.seq (Walk.region' rfl fun K hK => ?_)))
  obtain ⟨v32, h95, hx⟩ := bind_elim hx
  simp only [go_sem, seval, g66, c73, g78, g79, g80, c82, c88, c94]
  refine VCl.pure rfl (by simp only [go_sem, seval, g66, c73, g78, g79, g80, c82, c88, c94]; try simp) (blueprint_ascending_ok v7 _ h95) (by simp only [go_sem, seval, g66, c73, g78, g79, g80, c82, c88, c94]; try simp) (by simp only [go_sem, seval, g66, c73, g78, g79, g80, c82, c88, c94]; try simp) (by simp only [go_sem, seval, g66, c73, g78, g79, g80, c82, c88, c94]; try simp) (by simp only [go_sem, seval, g66, c73, g78, g79, g80, c82, c88, c94]; try simp) (by simp only [go_sem, seval, g66, c73, g78, g79, g80, c82, c88, c94]; try simp) (by simp only [go_sem, seval, g66, c73, g78, g79, g80, c82, c88, c94]; try simp) ?_
  simp only [go_sem, seval, g66, c73, g78, g79, g80, c82, c88, c94]
  refine hK _ ?_
  clear hK K
  refine Walk.condO rfl hx (fun c96 hx => ?_) (fun c96 hx => ?_)
  · refine Walk.seq (Walk.region' rfl fun K hK => ?_)
    simp only [go_sem, seval, g66, c73, g78, g79, g80, c82, c88, c94, c96]
    refine hK _ ?_
    clear hK K
    obtain rfl := Option.some.inj hx
    exact Walk.ret ⟨by simp [g66, c73, g78, g79, g80, c82, c88, c94, c96], by simp [g66, c73, g78, g79, g80, c82, c88, c94, c96]⟩
  refine Walk.skip (Walk.seq (Walk.region' rfl fun K hK => ?_))
  simp only [go_sem, seval, g66, c73, g78, g79, g80, c82, c88, c94, c96]
  refine hK _ ?_
  clear hK K
  obtain rfl := Option.some.inj hx
  exact Walk.ret ⟨by simp [g66, c73, g78, g79, g80, c82, c88, c94, c96], by simp [g66, c73, g78, g79, g80, c82, c88, c94, c96]⟩
noncomputable def mk_Tape_Word_l0 (v1 : List Int) (v15 : List UInt8) (v16 : Int) (v17 : Int) : Option ((List UInt8 × Int × Int) ⊕ (List UInt8 × Int)) :=
  bif decide (v16 > 0) then ((mk_Tape_Next v1 v17 3).bind fun v19 => chk (v15.length + 1 ≤ 281474976710656) (contO (((v15 ++ [UInt8.ofNat (IntKind.u8.wrap (IntKind.i64.wrap (97 + v19.1))).toNat]), IntKind.i64.wrap (v16 - 1), v19.2) : List UInt8 × Int × Int))) else (exitO (some ((v15, v17) : List UInt8 × Int)))
noncomputable def mk_Tape_Word (v1 : List Int) (v2 : Int) (v3 : Int) : Option (List UInt8 × Int) :=
  (mk_Tape_Range v1 v2 1 v3).bind fun v13 => iter (fun g : List UInt8 × Int × Int => mk_Tape_Word_l0 v1 g.1 g.2.1 g.2.2) ([], v13.1, v13.2)
theorem mk_Tape_Word_ok (v1 : List Int) (v2 : Int) (v3 : Int) (r : List UInt8 × Int) (hx : mk_Tape_Word v1 v2 v3 = some r) :
    ACalls Try.prog 60 [.box 0 0, .d (.int .i64 v3)] [(0, some (.box [.d (.sl (List.map iD v1)), .d (.int .i64 v2)]))] (.d (.str r.1)) [(0, some (.box [.d (.sl (List.map iD v1)), .d (.int .i64 r.2)]))] := by
  refine ACalls.of_sem (n := 23) 1 [4] (fn := Try.f60) Try.func60 rfl rfl (.one rfl) rfl (by simp) (by intro i; simp only [hget]; (repeat' split) <;> simp <;> omega) ?_
  unfold mk_Tape_Word at hx
  refine Walk.seq (Walk.region' rfl fun K hK => ?_)
  simp only [go_sem, seval]
  refine hK _ ?_
  clear hK K
  refine Walk.seq (Walk.region' rfl fun K hK => ?_)
  simp only [go_sem, seval]
  refine hK _ ?_
  clear hK K
  refine Walk.seq (Walk.seq (Walk.region' rfl fun K hK => ?_))
  obtain ⟨v13, h20, hx⟩ := bind_elim hx
  simp only [go_sem, seval]
  refine VCl.sub [(0, some (.box [.d (.sl (List.map iD v1)), .d (.int .i64 v2)]))] [] rfl (by simp only [go_sem, seval, AV.viewXs, AV.viewX, avD]; try simp) (mk_Tape_Range_ok v1 v2 1 v3 _ h20) (by simp) (by simp) (by simp) (by simp) (by simp) (by simp) (by simp) (by simp) (by simp) (by simp) ?_
  simp only [go_sem, seval]
  refine hK _ ?_
  clear hK K
  refine Walk.weaken ⟨[(0, .box 0 0), (5, .d (.str [])), (6, .d (.int .i64 v13.1))], [(0, some (.box [.d (.sl (List.map iD v1)), .d (.int .i64 v13.2)]))]⟩ (by simp <;> omega) (by simp <;> omega) ?_
  refine Walk.block (Walk.loop ?_)
  refine Walk.weaken ⟨[(0, .box 0 0), (5, .d (.str [])), (6, .d (.int .i64 v13.1))], [(0, some (.box [.d (.sl (List.map iD v1)), .d (.int .i64 v13.2)]))]⟩ (by simp <;> omega) (by simp <;> omega) ?_
  refine Walk.iter (σ := List UInt8 × Int × Int) (fun g => ⟨[(0, .box 0 0), (5, .d (.str g.1)), (6, .d (.int .i64 g.2.1))], [(0, some (.box [.d (.sl (List.map iD v1)), .d (.int .i64 g.2.2)]))]⟩) (fun g : List UInt8 × Int × Int => mk_Tape_Word_l0 v1 g.1 g.2.1 g.2.2) _ (fun g y39 hx ih30 hr31 => ?_) ([], v13.1, v13.2) hx
  obtain ⟨v15, v16, v17⟩ := g
  unfold mk_Tape_Word_l0 at hx
  try dsimp only at hx ⊢
  refine Walk.seq (Walk.seq (Walk.region' rfl fun K hK => ?_))
  simp only [go_sem, seval]
  refine hK _ ?_
  clear hK K
  refine Walk.condO rfl hx (fun c34 hx => ?_) (fun c34 hx => ?_)
  · refine Walk.skip (Walk.seq (Walk.block (Walk.region' rfl fun K hK => ?_)))
    obtain ⟨v19, h35, hx⟩ := bind_elim hx
    simp only [go_sem, seval, c34]
    refine VCl.sub [(0, some (.box [.d (.sl (List.map iD v1)), .d (.int .i64 v17)]))] [] rfl (by simp only [go_sem, seval, AV.viewXs, AV.viewX, avD, c34]; try simp) (mk_Tape_Next_ok v1 v17 3 _ h35) (by simp [c34]) (by simp [c34]) (by simp [c34]) (by simp [c34]) (by simp [c34]) (by simp [c34]) (by simp [c34]) (by simp [c34]) (by simp [c34]) (by simp [c34]) ?_
    obtain ⟨k36, hx⟩ := chk_elim hx
    simp only [go_sem, seval, c34, k36]
    repeat refine And.intro (by first | omega | (simp; done) | (simp; omega)) ?_
    refine hK _ ?_
    clear hK K
    refine Walk.weaken ⟨[(0, .box 0 0), (5, .d (.str ((v15 ++ [UInt8.ofNat (IntKind.u8.wrap (IntKind.i64.wrap (97 + v19.1))).toNat])))), (6, .d (.int .i64 v16))], [(0, some (.box [.d (.sl (List.map iD v1)), .d (.int .i64 v19.2)]))]⟩ (by simp [c34, k36] <;> omega) (by simp [c34, k36] <;> omega) ?_
    refine Walk.inBlock (Walk.region' rfl fun K hK => ?_)
    simp only [go_sem, seval, c34, k36]
    refine hK _ ?_
    clear hK K
    exact Walk.weaken _ (by simp [c34, k36] <;> omega) (by simp [c34, k36] <;> omega) (ih30 _ (cont_elim hx))
  refine Walk.exit rfl ?_
  obtain ⟨z37, e38, hx⟩ := exit_elim hx
  rw [hr31 z37 e38] at hx
  refine Walk.seq (Walk.region' rfl fun K hK => ?_)
  simp only [go_sem, seval, c34]
  refine hK _ ?_
  clear hK K
  obtain rfl := Option.some.inj hx
  exact Walk.ret ⟨by simp [c34], by simp [c34]⟩
end Go.AX

