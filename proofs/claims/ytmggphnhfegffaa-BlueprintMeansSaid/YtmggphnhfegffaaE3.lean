import Derived.Test.YtmggphnhfegffaaE2
set_option linter.unusedVariables false
set_option linter.unusedSimpArgs false
set_option maxRecDepth 20000
set_option maxHeartbeats 4000000
namespace Go.AX
open Go.Proofs
attribute [local simp] take_map_len subE subH eget hget upE upV upH upO_refl upO_box upVs freshE freshH freshO AV.ids AV.idsL ids_box ids_arr frE frV_refl frV_arr frH frO_refl frO_box frVs newOk evalA AV.viewXs AV.viewX AV.viewXP AV.viewXPs AV.viewPs AV.viewP AV.flat AV.flatL D.flat arrsOnly flatObjs newNames subOf closedIn allSome dstOk newOrOld avD avDp zv_i64 zv_u8 zv_bool zv_nils zv_nilp zv_str retAV aLoad cut TI.isAgg nlE nlH nlO_refl nlO_box nlVs nlV_refl nlV_nil iD uD bD tD lD List.map_set ti2 ti3 ti4 ti5 ti6 ti7 ti8 ti9 ti10 ti11 ti12 ti13 ti14 ti15 ti16 ti17 ti18 ti19 ti21 ti22 ti23 ti25 ti26 ti27 ti31 ti32 ti41 ti51 ti52 ti53 ti54 ti56 ti58 ti60 ti61 ti62 ti67 ti68 ti71 ti72 ti79 ti80 ti81 ti82 ti83 ti84 ti85 ti89 ti93 ti94 ti95 ti110 ti124 ti125 ti126 ti127 ti128 ti129 ti130 ti131 ti133 ti134 ti135 ti136 ti137 Row.D TRange.D Ref.D Form.D Part.D TItem.D
attribute [local go_sem] V1_none V1_some V_nil V_move V_assign V_pick V_bin V_un V_extract V_makeFunc V_convert V_nilCheck V_fieldAddr V_field V_load V_store V_indexAddr V_index V_slice V_slice0 V_alloc V_box V_build V_buildSlice V_makeSlice V_len V_min V_max V_append V_call V_guard VGs_some VG_tt VG_ff VG_tf VG_ft VG_u gslot ok fail po so aNew dstOk freshU addLog_none' addLog_some' St.step putL evalA eget hget argE freshE freshO freshH AV.ids AV.idsL AV.ok1 AV.cells ids_box ids_arr liveBox liveArr isArr aPick aBin aUn aExtract aMakeFunc aConvert aNilCheck aFieldAddr aField cut aLen aIndexAddr aMin aMax aIndex bnd isInt aSlice aSlice0 aLoad aAlloc aBox aStore splice aMake updIds newIds zv_i64 zv_u8 zv_bool zv_nils zv_nilp cond_bool cond_int TI.isAgg TK.isSl TK.el okL avDps avDp avD List.map_cons List.map_nil List.append_nil List.nil_append List.cons_append List.length_cons List.length_nil List.take_succ_cons List.take_zero List.drop_succ_cons List.drop_zero List.take_nil List.drop_nil List.headD_cons List.getD_cons_zero List.getD_cons_succ List.mem_cons List.not_mem_nil List.getElem?_cons_zero List.getElem?_cons_succ List.toList_toArray Option.getD_some Option.getD_none Option.bind_some Option.bind_none Option.map_some Option.map_none Option.getD Option.toList Nat.zero_add Nat.add_zero Nat.zero_le Nat.le_refl if_true if_false ite_self true_and and_true false_and and_false true_or or_true false_or or_false not_true_eq_false not_false_eq_true ne_eq cond_true cond_false Bool.true_eq_false Bool.false_eq_true forall_const decide_true decide_false implies_true true_implies and_self or_self Nat.succ_ne_zero Int.toNat_natCast Int.natCast_nonneg List.length_map decide_eq_true_eq AV.views AV.view AV.viewPs AV.viewP arrsOnly newNames List.length_append List.append_assoc Bool.not_true Bool.not_false AV.ok2 aBuild fillR fillP aBuildSlice dense elP aAppend esOf esOfP List.forall_mem_cons forall_eq_or_imp forall_eq zD zDp map_take' map_drop' iD uD bD tD lD iD_len uD_len bD_len tD_len lD_len LB Int.cast_ofNat_Int Int.natCast_zero Int.natCast_one head_len all_len List.head?_cons List.head?_nil Bool.not_not eq_self List.take_length zv_str aConv byteOf isByte map_bcell bytes_all str_map cellsEq cellsP AV.kd Bool.and_true Bool.true_and Bool.and_false Bool.false_and ti2 ti3 ti4 ti5 ti6 ti7 ti8 ti9 ti10 ti11 ti12 ti13 ti14 ti15 ti16 ti17 ti18 ti19 ti21 ti22 ti23 ti25 ti26 ti27 ti31 ti32 ti41 ti51 ti52 ti53 ti54 ti56 ti58 ti60 ti61 ti62 ti67 ti68 ti71 ti72 ti79 ti80 ti81 ti82 ti83 ti84 ti85 ti89 ti93 ti94 ti95 ti110 ti124 ti125 ti126 ti127 ti128 ti129 ti130 ti131 ti133 ti134 ti135 ti136 ti137 Row.D TRange.D Ref.D Form.D Part.D TItem.D Row.D_len TRange.D_len Ref.D_len Form.D_len Part.D_len TItem.D_len zs_ zs_48_49_50_51_52_53_54_55_56_57_48_49_50_51_52_53_54_55_56_57_48_49_50_51_52_53_54_55_56_57_48_49_50_51_52_53_54_55_56_57_120 zs_113 zs_116_97_98_9 eqf85_00
noncomputable def blueprint_ascending_l0 (v1 : List Int) (v8 : Int) : Option ((Int) ⊕ (Bool)) :=
  bif decide (v8 < (v1.length : Int)) then (bif decide (v8 > 0) then ((rd v1 (IntKind.i64.wrap (v8 - 1))).bind fun v11 => (rd v1 v8).bind fun v12 => bif decide (v11 ≥ v12) then (exitO (some (false : Bool))) else (contO (IntKind.i64.wrap (v8 + 1) : Int))) else (contO (IntKind.i64.wrap (v8 + 1) : Int))) else (exitO (some (true : Bool)))
noncomputable def blueprint_ascending (v1 : List Int) : Option (Bool) :=
  iter (fun g : Int => blueprint_ascending_l0 v1 g) 0
theorem blueprint_ascending_ok (v1 : List Int) (r : Bool) (hx : blueprint_ascending v1 = some r) :
    ACalls Try.prog 58 [.d (.sl (List.map iD v1))] [] (.d (.bool r)) [] := by
  refine ACalls.of_sem (n := 24) 0 [2] (fn := Try.f58) Try.func58 rfl rfl (.one rfl) rfl (by simp) (by intro i; simp only [hget]; (repeat' split) <;> simp <;> omega) ?_
  unfold blueprint_ascending at hx
  refine Walk.seq (Walk.region' rfl fun K hK => ?_)
  simp only [go_sem, seval]
  refine hK _ ?_
  clear hK K
  refine Walk.seq (Walk.seq (Walk.region' rfl fun K hK => ?_))
  simp only [go_sem, seval]
  refine hK _ ?_
  clear hK K
  refine Walk.block (Walk.loop ?_)
  refine Walk.weaken ⟨[(0, .d (.sl (List.map iD v1))), (5, .d (.int .i64 (v1.length : Int))), (6, .d (.int .i64 0))], []⟩ (by simp <;> omega) (by simp <;> omega) ?_
  refine Walk.iter (σ := Int) (fun g => ⟨[(0, .d (.sl (List.map iD v1))), (5, .d (.int .i64 (v1.length : Int))), (6, .d (.int .i64 g))], []⟩) (fun g : Int => blueprint_ascending_l0 v1 g) _ (fun v8 y63 hx ih45 hr46 => ?_) 0 hx
  unfold blueprint_ascending_l0 at hx
  try dsimp only at hx ⊢
  refine Walk.seq (Walk.region' rfl fun K hK => ?_)
  simp only [go_sem, seval]
  refine hK _ ?_
  clear hK K
  refine Walk.seq (Walk.condO rfl hx (fun c48 hx => ?_) (fun c48 hx => ?_))
  · refine Walk.skip (Walk.seq (Walk.block (Walk.seq (Walk.region' rfl fun K hK => ?_))))
    simp only [go_sem, seval, c48]
    refine hK _ ?_
    clear hK K
    refine Walk.seq (Walk.drawn' rfl mixed fun K hK => ?_)
    simp only [go_sem, seval, c48]
    refine VGdO hx (fun g49 hx => ?_) (fun g49 hx => ?_)
    · obtain ⟨v11, r50, a51, b52, c53, hx⟩ := rd_elim hx
      obtain ⟨v12, r54, a55, b56, c57, hx⟩ := rd_elim hx
      simp only [go_sem, seval, c48, g49, a51, b52, c53, a55, b56, c57]
      repeat refine And.intro (by first | omega | (simp; done) | (simp; omega)) ?_
      refine hK _ _ (by kernel_rfl) (by simp [c48, g49, a51, b52, c53, a55, b56, c57]) ?_
      clear hK K
      refine Walk.condO rfl hx (fun c58 hx => ?_) (fun c58 hx => ?_)
      · refine Walk.seq (Walk.region' rfl fun K hK => ?_)
        simp only [go_sem, seval, c48, g49, a51, b52, c53, a55, b56, c57, c58]
        refine hK _ ?_
        clear hK K
        obtain ⟨z59, e60, hx⟩ := exit_elim hx
        rw [hr46 z59 e60] at hx
        obtain rfl := Option.some.inj hx
        exact Walk.ret ⟨by simp [c48, g49, a51, b52, c53, a55, b56, c57, c58], by simp [c48, g49, a51, b52, c53, a55, b56, c57, c58]⟩
      refine Walk.skip (Walk.inBlock (Walk.region' rfl fun K hK => ?_))
      simp only [go_sem, seval, c48, g49, a51, b52, c53, a55, b56, c57, c58]
      refine hK _ ?_
      clear hK K
      exact Walk.weaken _ (by simp [c48, g49, a51, b52, c53, a55, b56, c57, c58] <;> omega) (by simp [c48, g49, a51, b52, c53, a55, b56, c57, c58] <;> omega) (ih45 _ (cont_elim hx))
    simp only [go_sem, seval, c48, g49]
    refine hK _ _ (by kernel_rfl) (by simp [c48, g49]) ?_
    clear hK K
    refine Walk.condF rfl (Walk.skip (Walk.inBlock (Walk.region' rfl fun K hK => ?_)))
    simp only [go_sem, seval, c48, g49]
    refine hK _ ?_
    clear hK K
    exact Walk.weaken _ (by simp [c48, g49] <;> omega) (by simp [c48, g49] <;> omega) (ih45 _ (cont_elim hx))
  refine Walk.exit rfl ?_
  obtain ⟨z61, e62, hx⟩ := exit_elim hx
  rw [hr46 z61 e62] at hx
  refine Walk.seq (Walk.region' rfl fun K hK => ?_)
  simp only [go_sem, seval, c48]
  refine hK _ ?_
  clear hK K
  obtain rfl := Option.some.inj hx
  exact Walk.ret ⟨by simp [c48], by simp [c48]⟩
noncomputable def blueprint_choice (v1 : List Int) (v2 : Int) : Option (Bool) :=
  (blueprint_ascending v1).bind fun v6 => bif v6 then ((blueprint_in (IntKind.i64.wrap (v2 - 1)) v1).bind fun v7 => some (v7 : Bool)) else (some (false : Bool))
theorem blueprint_choice_ok (v1 : List Int) (v2 : Int) (r : Bool) (hx : blueprint_choice v1 v2 = some r) :
    ACalls Try.prog 50 [.d (.sl (List.map iD v1)), .d (.int .i64 v2)] [] (.d (.bool r)) [] := by
  refine ACalls.of_sem (n := 13) 0 [4] (fn := Try.f50) Try.func50 rfl rfl (.one rfl) rfl (by simp) (by intro i; simp only [hget]; (repeat' split) <;> simp <;> omega) ?_
  unfold blueprint_choice at hx
  refine Walk.seq (Walk.region' rfl fun K hK => ?_)
  simp only [go_sem, seval]
  refine hK _ ?_
  clear hK K
  refine Walk.seq (Walk.region' rfl fun K hK => ?_)
  obtain ⟨v6, h4, hx⟩ := bind_elim hx
  simp only [go_sem, seval]
  refine VCl.pure rfl (by simp only [go_sem, seval]; try simp) (blueprint_ascending_ok v1 _ h4) (by simp only [go_sem, seval]; try simp) (by simp only [go_sem, seval]; try simp) (by simp only [go_sem, seval]; try simp) (by simp only [go_sem, seval]; try simp) (by simp only [go_sem, seval]; try simp) (by simp only [go_sem, seval]; try simp) ?_
  simp only [go_sem, seval]
  refine VGdO hx (fun g5 hx => ?_) (fun g5 hx => ?_)
  · obtain ⟨v7, h6, hx⟩ := bind_elim hx
    simp only [go_sem, seval, g5]
    refine VCl.pure rfl (by simp only [go_sem, seval, g5]; try simp) (blueprint_in_ok (IntKind.i64.wrap (v2 - 1)) v1 _ h6) (by simp only [go_sem, seval, g5]; try simp) (by simp only [go_sem, seval, g5]; try simp) (by simp only [go_sem, seval, g5]; try simp) (by simp only [go_sem, seval, g5]; try simp) (by simp only [go_sem, seval, g5]; try simp) (by simp only [go_sem, seval, g5]; try simp) ?_
    simp only [go_sem, seval, g5]
    refine hK _ ?_
    clear hK K
    obtain rfl := Option.some.inj hx
    exact Walk.ret ⟨by simp [g5], by simp [g5]⟩
  simp only [go_sem, seval, g5]
  refine hK _ ?_
  clear hK K
  obtain rfl := Option.some.inj hx
  exact Walk.ret ⟨by simp [g5], by simp [g5]⟩
noncomputable def blueprint_sum_l0 (v2 : List Int) (v1 : List Int) (v14 : Int) (v15 : Int) : Option ((Int × Int) ⊕ (Int)) :=
  bif decide (v15 < (v2.length : Int)) then ((rd v2 v15).bind fun v18 => (rd v1 v18).bind fun v19 => contO ((IntKind.i64.wrap (v14 + v19), IntKind.i64.wrap (v15 + 1)) : Int × Int)) else (exitO (some (v14 : Int)))
noncomputable def blueprint_sum (v1 : List Int) (v2 : List Int) : Option (Int) :=
  iter (fun g : Int × Int => blueprint_sum_l0 v2 v1 g.1 g.2) (0, 0)
theorem blueprint_sum_ok (v1 : List Int) (v2 : List Int) (r : Int) (hx : blueprint_sum v1 v2 = some r) :
    ACalls Try.prog 51 [.d (.sl (List.map iD v1)), .d (.sl (List.map iD v2))] [] (.d (.int .i64 r)) [] := by
  refine ACalls.of_sem (n := 22) 0 [4] (fn := Try.f51) Try.func51 rfl rfl (.one rfl) rfl (by simp) (by intro i; simp only [hget]; (repeat' split) <;> simp <;> omega) ?_
  unfold blueprint_sum at hx
  refine Walk.seq (Walk.region' rfl fun K hK => ?_)
  simp only [go_sem, seval]
  refine hK _ ?_
  clear hK K
  refine Walk.seq (Walk.region' rfl fun K hK => ?_)
  simp only [go_sem, seval]
  refine hK _ ?_
  clear hK K
  refine Walk.seq (Walk.seq (Walk.region' rfl fun K hK => ?_))
  simp only [go_sem, seval]
  refine hK _ ?_
  clear hK K
  refine Walk.block (Walk.loop ?_)
  refine Walk.weaken ⟨[(0, .d (.sl (List.map iD v1))), (5, .d (.int .i64 0)), (8, .d (.sl (List.map iD v2))), (9, .d (.int .i64 (v2.length : Int))), (10, .d (.int .i64 0))], []⟩ (by simp <;> omega) (by simp <;> omega) ?_
  refine Walk.iter (σ := Int × Int) (fun g => ⟨[(0, .d (.sl (List.map iD v1))), (5, .d (.int .i64 g.1)), (8, .d (.sl (List.map iD v2))), (9, .d (.int .i64 (v2.length : Int))), (10, .d (.int .i64 g.2))], []⟩) (fun g : Int × Int => blueprint_sum_l0 v2 v1 g.1 g.2) _ (fun g y69 hx ih55 hr56 => ?_) (0, 0) hx
  obtain ⟨v14, v15⟩ := g
  unfold blueprint_sum_l0 at hx
  try dsimp only at hx ⊢
  refine Walk.seq (Walk.region' rfl fun K hK => ?_)
  simp only [go_sem, seval]
  refine hK _ ?_
  clear hK K
  refine Walk.seq (Walk.condO rfl hx (fun c58 hx => ?_) (fun c58 hx => ?_))
  · refine Walk.skip (Walk.seq (Walk.block (Walk.seq (Walk.region' rfl fun K hK => ?_))))
    obtain ⟨v18, r59, a60, b61, c62, hx⟩ := rd_elim hx
    simp only [go_sem, seval, c58, a60, b61, c62]
    repeat refine And.intro (by first | omega | (simp; done) | (simp; omega)) ?_
    refine hK _ ?_
    clear hK K
    refine Walk.region' rfl fun K hK => ?_
    obtain ⟨v19, r63, a64, b65, c66, hx⟩ := rd_elim hx
    simp only [go_sem, seval, c58, a60, b61, c62, a64, b65, c66]
    repeat refine And.intro (by first | omega | (simp; done) | (simp; omega)) ?_
    refine hK _ ?_
    clear hK K
    refine Walk.inBlock (Walk.region' rfl fun K hK => ?_)
    simp only [go_sem, seval, c58, a60, b61, c62, a64, b65, c66]
    refine hK _ ?_
    clear hK K
    exact Walk.weaken _ (by simp [c58, a60, b61, c62, a64, b65, c66] <;> omega) (by simp [c58, a60, b61, c62, a64, b65, c66] <;> omega) (ih55 _ (cont_elim hx))
  refine Walk.exit rfl ?_
  obtain ⟨z67, e68, hx⟩ := exit_elim hx
  rw [hr56 z67 e68] at hx
  refine Walk.seq (Walk.region' rfl fun K hK => ?_)
  simp only [go_sem, seval, c58]
  refine hK _ ?_
  clear hK K
  obtain rfl := Option.some.inj hx
  exact Walk.ret ⟨by simp [c58], by simp [c58]⟩
noncomputable def blueprint_Meets_l0 (v2 : List Row) (v3 : List Int) (v22 : Int) : Option ((Int) ⊕ (Bool)) :=
  bif decide (v22 < (v2.length : Int)) then ((rd v2 v22).bind fun v25 => (blueprint_sum v25.Coefs v3).bind fun v26 => bif decide (v26 < v25.Least) then (exitO (some (false : Bool))) else (bif decide (v26 > v25.Most) then (exitO (some (false : Bool))) else (contO (IntKind.i64.wrap (v22 + 1) : Int)))) else (exitO (some (true : Bool)))
noncomputable def blueprint_Meets (v1 : List Int) (v2 : List Row) (v3 : List Int) : Option (Bool) :=
  (blueprint_Valid v1 v2).bind fun v18 => bif !v18 then (some (false : Bool)) else ((blueprint_choice v3 (v1.length : Int)).bind fun v19 => bif !v19 then (some (false : Bool)) else (iter (fun g : Int => blueprint_Meets_l0 v2 v3 g) 0))
theorem blueprint_Meets_ok (v1 : List Int) (v2 : List Row) (v3 : List Int) (r : Bool) (hx : blueprint_Meets v1 v2 v3 = some r) :
    ACalls Try.prog 26 [.agg [.d (.sl (List.map iD v1)), .d (.sl (List.map Row.D v2))], .d (.sl (List.map iD v3))] [] (.d (.bool r)) [] := by
  refine ACalls.of_sem (n := 41) 0 [4] (fn := Try.f26) Try.func26 rfl rfl (.one rfl) rfl (by simp) (by intro i; simp only [hget]; (repeat' split) <;> simp <;> omega) ?_
  unfold blueprint_Meets at hx
  refine Walk.seq (Walk.region' rfl fun K hK => ?_)
  simp only [go_sem, seval]
  refine hK _ ?_
  clear hK K
  refine Walk.seq (Walk.seq (Walk.region' rfl fun K hK => ?_))
  obtain ⟨v18, h45, hx⟩ := bind_elim hx
  simp only [go_sem, seval]
  refine VCl.pure rfl (by simp only [go_sem, seval]; try simp) (blueprint_Valid_ok v1 v2 _ h45) (by simp only [go_sem, seval]; try simp) (by simp only [go_sem, seval]; try simp) (by simp only [go_sem, seval]; try simp) (by simp only [go_sem, seval]; try simp) (by simp only [go_sem, seval]; try simp) (by simp only [go_sem, seval]; try simp) ?_
  simp only [go_sem, seval]
  refine VGdO hx (fun g46 hx => ?_) (fun g46 hx => ?_)
  · simp only [go_sem, seval, g46]
    refine hK _ ?_
    clear hK K
    refine Walk.condT rfl (Walk.seq (Walk.region' rfl fun K hK => ?_))
    simp only [go_sem, seval, g46]
    refine hK _ ?_
    clear hK K
    obtain rfl := Option.some.inj hx
    exact Walk.ret ⟨by simp [g46], by simp [g46]⟩
  obtain ⟨v19, h47, hx⟩ := bind_elim hx
  simp only [go_sem, seval, g46]
  refine VCl.pure rfl (by simp only [go_sem, seval, g46]; try simp) (blueprint_choice_ok v3 (v1.length : Int) _ h47) (by simp only [go_sem, seval, g46]; try simp) (by simp only [go_sem, seval, g46]; try simp) (by simp only [go_sem, seval, g46]; try simp) (by simp only [go_sem, seval, g46]; try simp) (by simp only [go_sem, seval, g46]; try simp) (by simp only [go_sem, seval, g46]; try simp) ?_
  simp only [go_sem, seval, g46]
  refine hK _ ?_
  clear hK K
  refine Walk.condO rfl hx (fun c49 hx => ?_) (fun c49 hx => ?_)
  · refine Walk.seq (Walk.region' rfl fun K hK => ?_)
    simp only [go_sem, seval, g46, c49]
    refine hK _ ?_
    clear hK K
    obtain rfl := Option.some.inj hx
    exact Walk.ret ⟨by simp [g46, c49], by simp [g46, c49]⟩
  refine Walk.skip (Walk.seq (Walk.seq (Walk.region' rfl fun K hK => ?_)))
  simp only [go_sem, seval, g46, c49]
  refine hK _ ?_
  clear hK K
  refine Walk.block (Walk.loop ?_)
  refine Walk.weaken ⟨[(1, .d (.sl (List.map iD v3))), (20, .d (.sl (List.map Row.D v2))), (21, .d (.int .i64 (v2.length : Int))), (22, .d (.int .i64 0))], []⟩ (by simp [g46, c49] <;> omega) (by simp [g46, c49] <;> omega) ?_
  refine Walk.iter (σ := Int) (fun g => ⟨[(1, .d (.sl (List.map iD v3))), (20, .d (.sl (List.map Row.D v2))), (21, .d (.int .i64 (v2.length : Int))), (22, .d (.int .i64 g))], []⟩) (fun g : Int => blueprint_Meets_l0 v2 v3 g) _ (fun v22 y85 hx ih68 hr69 => ?_) 0 hx
  unfold blueprint_Meets_l0 at hx
  try dsimp only at hx ⊢
  refine Walk.seq (Walk.region' rfl fun K hK => ?_)
  simp only [go_sem, seval, g46, c49]
  refine hK _ ?_
  clear hK K
  refine Walk.seq (Walk.condO rfl hx (fun c71 hx => ?_) (fun c71 hx => ?_))
  · refine Walk.skip (Walk.seq (Walk.block (Walk.seq (Walk.region' rfl fun K hK => ?_))))
    obtain ⟨v25, r72, a73, b74, c75, hx⟩ := rd_elim hx
    simp only [go_sem, seval, g46, c49, c71, a73, b74, c75]
    repeat refine And.intro (by first | omega | (simp; done) | (simp; omega)) ?_
    refine hK _ ?_
    clear hK K
    refine Walk.seq (Walk.region' rfl fun K hK => ?_)
    obtain ⟨v26, h76, hx⟩ := bind_elim hx
    simp only [go_sem, seval, g46, c49, c71, a73, b74, c75]
    refine VCl.pure rfl (by simp only [go_sem, seval, g46, c49, c71, a73, b74, c75]; try simp) (blueprint_sum_ok v25.Coefs v3 _ h76) (by simp only [go_sem, seval, g46, c49, c71, a73, b74, c75]; try simp) (by simp only [go_sem, seval, g46, c49, c71, a73, b74, c75]; try simp) (by simp only [go_sem, seval, g46, c49, c71, a73, b74, c75]; try simp) (by simp only [go_sem, seval, g46, c49, c71, a73, b74, c75]; try simp) (by simp only [go_sem, seval, g46, c49, c71, a73, b74, c75]; try simp) (by simp only [go_sem, seval, g46, c49, c71, a73, b74, c75]; try simp) ?_
    simp only [go_sem, seval, g46, c49, c71, a73, b74, c75]
    refine hK _ ?_
    clear hK K
    refine Walk.seq (Walk.region' rfl fun K hK => ?_)
    simp only [go_sem, seval, g46, c49, c71, a73, b74, c75]
    refine VGdO hx (fun g77 hx => ?_) (fun g77 hx => ?_)
    · simp only [go_sem, seval, g46, c49, c71, a73, b74, c75, g77]
      refine hK _ ?_
      clear hK K
      refine Walk.condT rfl (Walk.seq (Walk.region' rfl fun K hK => ?_))
      simp only [go_sem, seval, g46, c49, c71, a73, b74, c75, g77]
      refine hK _ ?_
      clear hK K
      obtain ⟨z78, e79, hx⟩ := exit_elim hx
      rw [hr69 z78 e79] at hx
      obtain rfl := Option.some.inj hx
      exact Walk.ret ⟨by simp [g46, c49, c71, a73, b74, c75, g77], by simp [g46, c49, c71, a73, b74, c75, g77]⟩
    simp only [go_sem, seval, g46, c49, c71, a73, b74, c75, g77]
    refine hK _ ?_
    clear hK K
    refine Walk.condO rfl hx (fun c80 hx => ?_) (fun c80 hx => ?_)
    · refine Walk.seq (Walk.region' rfl fun K hK => ?_)
      simp only [go_sem, seval, g46, c49, c71, a73, b74, c75, g77, c80]
      refine hK _ ?_
      clear hK K
      obtain ⟨z81, e82, hx⟩ := exit_elim hx
      rw [hr69 z81 e82] at hx
      obtain rfl := Option.some.inj hx
      exact Walk.ret ⟨by simp [g46, c49, c71, a73, b74, c75, g77, c80], by simp [g46, c49, c71, a73, b74, c75, g77, c80]⟩
    refine Walk.skip (Walk.inBlock (Walk.region' rfl fun K hK => ?_))
    simp only [go_sem, seval, g46, c49, c71, a73, b74, c75, g77, c80]
    refine hK _ ?_
    clear hK K
    exact Walk.weaken _ (by simp [g46, c49, c71, a73, b74, c75, g77, c80] <;> omega) (by simp [g46, c49, c71, a73, b74, c75, g77, c80] <;> omega) (ih68 _ (cont_elim hx))
  refine Walk.exit rfl ?_
  obtain ⟨z83, e84, hx⟩ := exit_elim hx
  rw [hr69 z83 e84] at hx
  refine Walk.seq (Walk.region' rfl fun K hK => ?_)
  simp only [go_sem, seval, g46, c49, c71]
  refine hK _ ?_
  clear hK K
  obtain rfl := Option.some.inj hx
  exact Walk.ret ⟨by simp [g46, c49, c71], by simp [g46, c49, c71]⟩
noncomputable def law08_awake : Option (Bool) :=
  (blueprint_Span [4, 5, 6] 9 10 [0, -1, -1]).bind fun v6 => (blueprint_Meets [1, 1, 1] ([(Row.mk [1, 1, 1] 1 2), (Row.mk [4, 5, 6] 9 10), (Row.mk [0, 1, 1] 0 1)]) [0, 1]).bind fun v7 => bif v7 then ((blueprint_Meets [1, 1, 1] ([(Row.mk [1, 1, 1] 1 2), (Row.mk [4, 5, 6] 9 10), (Row.mk [0, 1, 1] 0 1)]) [1, 2]).bind fun v8 => bif !v8 then (bif v6.2.2 then (bif decide (v6.1 = 0) then (bif decide (v6.2.1 = 11) then ((blueprint_Dead [1, 1, 1] ([(Row.mk [1, 1, 1] 1 2), (Row.mk [4, 5, 6] 9 10), (Row.mk [0, 1, 1] 0 1)]) [0, -1, -1]).bind fun v9 => some (decide (v9 = (-1)) : Bool)) else (some (false : Bool))) else (some (false : Bool))) else (some (false : Bool))) else (some (false : Bool))) else (some (false : Bool))
theorem law08_awake_ok (r : Bool) (hx : law08_awake = some r) :
    ACalls Try.prog 18 [] [] (.d (.bool r)) [] := by
  refine ACalls.of_sem (n := 50) 0 [0] (fn := Try.f18) Try.func18 rfl rfl (.one rfl) rfl (by simp) (by intro i; simp only [hget]; (repeat' split) <;> simp <;> omega) ?_
  unfold law08_awake at hx
  refine Walk.seq (Walk.region' rfl fun K hK => ?_)
  simp only [go_sem, seval]
  refine hK _ ?_
  clear hK K
  refine Walk.seq (Walk.region' rfl fun K hK => ?_)
  simp only [go_sem, seval]
  refine hK _ ?_
  clear hK K
  refine Walk.weaken ⟨[(1, .box 1 0)], [(1, some (.box [.arr 5 0 3, .arr 12 0 3])), (5, some (.arr 3 1 (List.map iD [1, 1, 1]))), (12, some (.arr 32 3 (List.map Row.D ([(Row.mk [1, 1, 1] 1 2), (Row.mk [4, 5, 6] 9 10), (Row.mk [0, 1, 1] 0 1)]))))]⟩ (by simp <;> omega) (by simp <;> omega) ?_
  refine Walk.seq (Walk.region' rfl fun K hK => ?_)
  obtain ⟨v6, h10, hx⟩ := bind_elim hx
  simp only [go_sem, seval]
  repeat refine And.intro (by first | omega | (simp; done) | (simp; omega)) ?_
  refine VCl.lent rfl (by simp only [go_sem, seval]; try simp) (blueprint_Span_ok [4, 5, 6] 9 10 [0, -1, -1] _ h10) (by simp) (by simp) (by simp) (by simp) (by simp) (by simp) (by simp) ?_
  simp only [go_sem, seval]
  refine hK _ ?_
  clear hK K
  refine Walk.weaken ⟨[(1, .box 1 0), (2, .d (.int .i64 v6.1)), (3, .d (.int .i64 v6.2.1)), (4, .d (.bool v6.2.2))], [(1, some (.box [.arr 5 0 3, .arr 12 0 3])), (5, some (.arr 3 1 (List.map iD [1, 1, 1]))), (12, some (.arr 32 3 (List.map Row.D ([(Row.mk [1, 1, 1] 1 2), (Row.mk [4, 5, 6] 9 10), (Row.mk [0, 1, 1] 0 1)]))))]⟩ (by simp <;> omega) (by simp <;> omega) ?_
  refine Walk.seq (Walk.region' rfl fun K hK => ?_)
  obtain ⟨v7, h11, hx⟩ := bind_elim hx
  simp only [go_sem, seval]
  refine VCl.lent rfl (by simp only [go_sem, seval]; try simp) (blueprint_Meets_ok [1, 1, 1] ([(Row.mk [1, 1, 1] 1 2), (Row.mk [4, 5, 6] 9 10), (Row.mk [0, 1, 1] 0 1)]) [0, 1] _ h11) (by simp) (by simp) (by simp) (by simp) (by simp) (by simp) (by simp) ?_
  simp only [go_sem, seval]
  refine VGdO hx (fun g12 hx => ?_) (fun g12 hx => ?_)
  · obtain ⟨v8, h13, hx⟩ := bind_elim hx
    simp only [go_sem, seval, g12]
    refine VCl.lent rfl (by simp only [go_sem, seval, g12]; try simp) (blueprint_Meets_ok [1, 1, 1] ([(Row.mk [1, 1, 1] 1 2), (Row.mk [4, 5, 6] 9 10), (Row.mk [0, 1, 1] 0 1)]) [1, 2] _ h13) (by simp [g12]) (by simp [g12]) (by simp [g12]) (by simp [g12]) (by simp [g12]) (by simp [g12]) (by simp [g12]) ?_
    simp only [go_sem, seval, g12]
    refine VGdO hx (fun g14 hx => ?_) (fun g14 hx => ?_)
    · simp only [go_sem, seval, g12, g14]
      refine VGdO hx (fun g15 hx => ?_) (fun g15 hx => ?_)
      · simp only [go_sem, seval, g12, g14, g15]
        refine VGdO hx (fun g16 hx => ?_) (fun g16 hx => ?_)
        · simp only [go_sem, seval, g12, g14, g15, g16]
          refine VGdO hx (fun g17 hx => ?_) (fun g17 hx => ?_)
          · obtain ⟨v9, h18, hx⟩ := bind_elim hx
            simp only [go_sem, seval, g12, g14, g15, g16, g17]
            refine VCl.lent rfl (by simp only [go_sem, seval, g12, g14, g15, g16, g17]; try simp) (blueprint_Dead_ok [1, 1, 1] ([(Row.mk [1, 1, 1] 1 2), (Row.mk [4, 5, 6] 9 10), (Row.mk [0, 1, 1] 0 1)]) [0, -1, -1] _ h18) (by simp [g12, g14, g15, g16, g17]) (by simp [g12, g14, g15, g16, g17]) (by simp [g12, g14, g15, g16, g17]) (by simp [g12, g14, g15, g16, g17]) (by simp [g12, g14, g15, g16, g17]) (by simp [g12, g14, g15, g16, g17]) (by simp [g12, g14, g15, g16, g17]) ?_
            simp only [go_sem, seval, g12, g14, g15, g16, g17]
            refine hK _ ?_
            clear hK K
            refine Walk.weaken ⟨[(0, .d (.bool (decide (v9 = (-1)))))], []⟩ (by simp [g12, g14, g15, g16, g17] <;> omega) (by simp [g12, g14, g15, g16, g17] <;> omega) ?_
            obtain rfl := Option.some.inj hx
            exact Walk.ret ⟨by simp [g12, g14, g15, g16, g17], by simp [g12, g14, g15, g16, g17]⟩
          simp only [go_sem, seval, g12, g14, g15, g16, g17]
          refine hK _ ?_
          clear hK K
          refine Walk.weaken ⟨[(0, .d (.bool false))], []⟩ (by simp [g12, g14, g15, g16, g17] <;> omega) (by simp [g12, g14, g15, g16, g17] <;> omega) ?_
          obtain rfl := Option.some.inj hx
          exact Walk.ret ⟨by simp [g12, g14, g15, g16, g17], by simp [g12, g14, g15, g16, g17]⟩
        simp only [go_sem, seval, g12, g14, g15, g16]
        refine hK _ ?_
        clear hK K
        refine Walk.weaken ⟨[(0, .d (.bool false))], []⟩ (by simp [g12, g14, g15, g16] <;> omega) (by simp [g12, g14, g15, g16] <;> omega) ?_
        obtain rfl := Option.some.inj hx
        exact Walk.ret ⟨by simp [g12, g14, g15, g16], by simp [g12, g14, g15, g16]⟩
      simp only [go_sem, seval, g12, g14, g15]
      refine hK _ ?_
      clear hK K
      refine Walk.weaken ⟨[(0, .d (.bool false))], []⟩ (by simp [g12, g14, g15] <;> omega) (by simp [g12, g14, g15] <;> omega) ?_
      obtain rfl := Option.some.inj hx
      exact Walk.ret ⟨by simp [g12, g14, g15], by simp [g12, g14, g15]⟩
    simp only [go_sem, seval, g12, g14]
    refine hK _ ?_
    clear hK K
    refine Walk.weaken ⟨[(0, .d (.bool false))], []⟩ (by simp [g12, g14] <;> omega) (by simp [g12, g14] <;> omega) ?_
    obtain rfl := Option.some.inj hx
    exact Walk.ret ⟨by simp [g12, g14], by simp [g12, g14]⟩
  simp only [go_sem, seval, g12]
  refine hK _ ?_
  clear hK K
  refine Walk.weaken ⟨[(0, .d (.bool false))], []⟩ (by simp [g12] <;> omega) (by simp [g12] <;> omega) ?_
  obtain rfl := Option.some.inj hx
  exact Walk.ret ⟨by simp [g12], by simp [g12]⟩
noncomputable def ref08_Subset_l0 (v1 : Int) (v2 : Int) (v6 : List Int) (v7 : Int) : Option ((List Int × Int) ⊕ (List Int)) :=
  bif decide (v7 < v1) then (chk (0 ≤ (IntKind.u64.wrap (v7))) (bif decide (((Go.bits .and .i64 ((v2 / 2 ^ (min (IntKind.u64.wrap (v7)).toNat 64))) 1)) = 1) then (chk ((v6.length + 1) * 8 ≤ 140737488355328) (contO (((v6 ++ [v7]), IntKind.i64.wrap (v7 + 1)) : List Int × Int))) else (contO ((v6, IntKind.i64.wrap (v7 + 1)) : List Int × Int)))) else (exitO (some (v6 : List Int)))
noncomputable def ref08_Subset (v1 : Int) (v2 : Int) : Option (List Int) :=
  iter (fun g : List Int × Int => ref08_Subset_l0 v1 v2 g.1 g.2) ([], 0)
theorem ref08_Subset_ok (v1 : Int) (v2 : Int) (r : List Int) (hx : ref08_Subset v1 v2 = some r) :
    ACalls Try.prog 23 [.d (.int .i64 v1), .d (.int .i64 v2)] [] (.arr 2000 0 r.length) [(2000, some (.arr 3 1 (List.map iD r)))] := by
  refine ACalls.of_sem (n := 23) 0 [4] (fn := Try.f23) Try.func23 rfl rfl (.one rfl) rfl (by simp) (by intro i; simp only [hget]; (repeat' split) <;> simp <;> omega) ?_
  unfold ref08_Subset at hx
  refine Walk.seq (Walk.region' rfl fun K hK => ?_)
  simp only [go_sem, seval]
  refine hK _ ?_
  clear hK K
  refine Walk.seq (Walk.region' rfl fun K hK => ?_)
  simp only [go_sem, seval]
  refine hK _ ?_
  clear hK K
  refine Walk.seq (Walk.seq (Walk.region' rfl fun K hK => ?_))
  simp only [go_sem, seval]
  refine hK _ ?_
  clear hK K
  refine Walk.block (Walk.loop ?_)
  refine Walk.weaken ⟨[(0, .d (.int .i64 v1)), (1, .d (.int .i64 v2)), (5, .nils), (6, .d (.int .i64 0))], []⟩ (by simp <;> omega) (by simp <;> omega) ?_
  refine Walk.up 1002 3 1 [(0, .d (.int .i64 v1)), (1, .d (.int .i64 v2)), (5, .arr 1002 0 0), (6, .d (.int .i64 0))] [] (by simp) (by simp) (by omega) (by simp) (by simp) (by simp) ?_
  refine Walk.weaken ⟨[(0, .d (.int .i64 v1)), (1, .d (.int .i64 v2)), (5, .arr 1002 0 0), (6, .d (.int .i64 0))], [(1002, some (.arr 3 1 (List.map iD [])))]⟩ (by simp <;> omega) (by simp <;> omega) ?_
  refine Walk.iter (σ := List Int × Int) (fun g => ⟨[(0, .d (.int .i64 v1)), (1, .d (.int .i64 v2)), (5, .arr 1002 0 g.1.length), (6, .d (.int .i64 g.2))], [(1002, some (.arr 3 1 (List.map iD g.1)))]⟩) (fun g : List Int × Int => ref08_Subset_l0 v1 v2 g.1 g.2) _ (fun g y43 hx ih33 hr34 => ?_) ([], 0) hx
  obtain ⟨v6, v7⟩ := g
  unfold ref08_Subset_l0 at hx
  try dsimp only at hx ⊢
  refine Walk.seq (Walk.seq (Walk.region' rfl fun K hK => ?_))
  simp only [go_sem, seval]
  refine hK _ ?_
  clear hK K
  refine Walk.condO rfl hx (fun c37 hx => ?_) (fun c37 hx => ?_)
  · refine Walk.skip (Walk.seq (Walk.block (Walk.seq (Walk.region' rfl fun K hK => ?_))))
    obtain ⟨k38, hx⟩ := chk_elim hx
    simp only [go_sem, seval, c37, k38]
    repeat refine And.intro (by first | omega | (simp; done) | (simp; omega)) ?_
    refine hK _ ?_
    clear hK K
    refine Walk.condO rfl hx (fun c39 hx => ?_) (fun c39 hx => ?_)
    · refine Walk.region' rfl fun K hK => ?_
      obtain ⟨k40, hx⟩ := chk_elim hx
      simp only [go_sem, seval, c37, k38, c39, k40]
      repeat refine And.intro (by first | omega | (simp; done) | (simp; omega)) ?_
      refine hK _ ?_
      clear hK K
      refine Walk.weaken ⟨[(0, .d (.int .i64 v1)), (1, .d (.int .i64 v2)), (5, .arr 1002 0 ((v6 ++ [v7]).length)), (6, .d (.int .i64 v7))], [(1002, some (.arr 3 1 (List.map iD (v6 ++ [v7]))))]⟩ (by simp [c37, k38, c39, k40] <;> omega) (by simp [c37, k38, c39, k40] <;> omega) ?_
      refine Walk.inBlock (Walk.region' rfl fun K hK => ?_)
      simp only [go_sem, seval, c37, k38, c39, k40]
      refine hK _ ?_
      clear hK K
      exact Walk.weaken _ (by simp [c37, k38, c39, k40] <;> omega) (by simp [c37, k38, c39, k40] <;> omega) (ih33 _ (cont_elim hx))
    refine Walk.skip (Walk.inBlock (Walk.region' rfl fun K hK => ?_))
    simp only [go_sem, seval, c37, k38, c39]
    refine hK _ ?_
    clear hK K
    exact Walk.weaken _ (by simp [c37, k38, c39] <;> omega) (by simp [c37, k38, c39] <;> omega) (ih33 _ (cont_elim hx))
  refine Walk.exit rfl ?_
  obtain ⟨z41, e42, hx⟩ := exit_elim hx
  rw [hr34 z41 e42] at hx
  refine Walk.seq (Walk.region' rfl fun K hK => ?_)
  simp only [go_sem, seval, c37]
  refine hK _ ?_
  clear hK K
  refine Walk.weaken ⟨[(4, .arr 1002 0 v6.length)], [(1002, some (.arr 3 1 (List.map iD v6)))]⟩ (by simp [c37] <;> omega) (by simp [c37] <;> omega) ?_
  refine Walk.rename 1002 2000 (by omega) (by omega) (by simp) (by simp) ?_
  simp only [renE, renL, AV.ren, AV.rens, AObj.ren, swp, Option.map_some, reduceIte, Nat.reduceEqDiff]
  obtain rfl := Option.some.inj hx
  exact Walk.ret ⟨by simp [c37], by simp [c37]⟩
end Go.AX

