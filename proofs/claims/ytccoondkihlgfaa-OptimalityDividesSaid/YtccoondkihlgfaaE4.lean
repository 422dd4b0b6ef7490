import Derived.Test.YtccoondkihlgfaaE3
set_option linter.unusedVariables false
set_option linter.unusedSimpArgs false
set_option maxRecDepth 20000
set_option maxHeartbeats 4000000
namespace Go.AX
open Go.Proofs
attribute [local simp] spl_len take_snoc take_cons_drop cons_rep cons_tail iA bA take_set_len idsL_rep idsL_iA idsL_bA idsL_sA idsL_set_mem idsL_sub sA_def List.map_replicate frVs_setS frVs_self frV_arr take_map_len subE subH eget hget upE upV upH upO_refl upO_box upVs freshE freshH freshO AV.ids AV.idsL ids_box ids_arr frE frV_refl frV_arr frH frO_refl frO_box frVs newOk evalA AV.viewXs AV.viewX AV.viewXP AV.viewXPs AV.viewPs AV.viewP AV.flat AV.flatL D.flat arrsOnly flatObjs newNames subOf closedIn allSome dstOk newOrOld avD avDp zv_i64 zv_u8 zv_bool zv_nils zv_nilp zv_str retAV aLoad cut TI.isAgg nlE nlH nlO_refl nlO_box nlVs nlV_refl nlV_nil iD uD bD tD lD List.map_set ti2 ti3 ti4 ti5 ti6 ti7 ti8 ti9 ti10 ti11 ti12 ti13 ti14 ti15 ti16 ti17 ti18 ti19 ti21 ti22 ti23 ti25 ti26 ti27 ti32 ti33 ti34 ti41 ti42 ti50 ti51 ti56 ti60 ti61 ti63 ti64 ti74 ti76 ti89 ti92 ti96 ti97 ti98 ti99 ti100 ti101 ti102 ti104 ti105 ti106 ti107 ti108 Row.D Node.D
attribute [local go_sem] V1_none V1_some V_nil V_move V_assign V_pick V_bin V_un V_extract V_makeFunc V_convert V_nilCheck V_fieldAddr V_field V_load V_store V_indexAddr V_index V_slice V_slice0 V_alloc V_box V_build V_buildSlice V_makeSlice V_len V_min V_max V_append V_copy V_call V_guard VGs_some VG_tt VG_ff VG_tf VG_ft VG_u gslot ok fail po so aNew dstOk freshU addLog_none' addLog_some' St.step putL evalA eget hget argE freshE freshO freshH AV.ids AV.idsL AV.ok1 AV.cells ids_box ids_arr liveBox liveArr isArr isObj isBoxB aPick isNilC aNilEq aBin aUn aExtract aMakeFunc aConvert aNilCheck aFieldAddr aField cut aLen aIndexAddr aMin aMax aIndex bnd isInt aSlice aSlice0 aLoad aAlloc aBox aStore splice aMake aMakeBox aCopy cellsOf cellsOfP updIds newIds zv_i64 zv_u8 zv_bool zv_nils zv_nilp cond_bool cond_int TI.isAgg TK.isSl TK.el okL avDps avDp avD List.map_cons List.map_nil List.append_nil List.nil_append List.cons_append List.length_cons List.length_nil List.take_succ_cons List.take_zero List.drop_succ_cons List.drop_zero List.take_nil List.drop_nil List.headD_cons List.getD_cons_zero List.getD_cons_succ List.mem_cons List.not_mem_nil List.getElem?_cons_zero List.getElem?_cons_succ List.toList_toArray Option.getD_some Option.getD_none Option.bind_some Option.bind_none Option.map_some Option.map_none Option.getD Option.toList Nat.zero_add Nat.add_zero Nat.zero_le Nat.le_refl if_true if_false ite_self true_and and_true false_and and_false true_or or_true false_or or_false not_true_eq_false not_false_eq_true ne_eq cond_true cond_false Bool.true_eq_false Bool.false_eq_true forall_const decide_true decide_false implies_true true_implies and_self or_self Nat.succ_ne_zero Int.toNat_natCast Int.natCast_nonneg List.length_map decide_eq_true_eq AV.views AV.view AV.viewPs AV.viewP arrsOnly newNames List.length_append List.append_assoc Bool.not_true Bool.not_false AV.ok2 aBuild fillR fillP aBuildSlice dense elP aAppend esOf esOfP List.forall_mem_cons forall_eq_or_imp forall_eq zD zDp map_take' map_drop' iD uD bD tD lD iD_len uD_len bD_len tD_len lD_len LB Int.cast_ofNat_Int Int.natCast_zero Int.natCast_one head_len all_len List.head?_cons List.head?_nil Bool.not_not eq_self List.take_length zv_str aConv byteOf isByte map_bcell bytes_all str_map cellsEq cellsP AV.kd Bool.and_true Bool.true_and Bool.and_false Bool.false_and spl_map spl_len mkbox_i mkbox_b flat_iD dataL_iA dataL_bA zv_u64 flat_iD' flat_len dataL_tA dataL_ttA spl_mt spl_mtt mkbox_s splice_one take_cons_drop cons_rep cons_tail hd_set hd_set0 List.length_replicate iA bA sA_def List.set_set List.length_set idsL_iA idsL_bA idsL_sA idsL_setE idsL_rep List.append_eq Nat.mul_one ti2 ti3 ti4 ti5 ti6 ti7 ti8 ti9 ti10 ti11 ti12 ti13 ti14 ti15 ti16 ti17 ti18 ti19 ti21 ti22 ti23 ti25 ti26 ti27 ti32 ti33 ti34 ti41 ti42 ti50 ti51 ti56 ti60 ti61 ti63 ti64 ti74 ti76 ti89 ti92 ti96 ti97 ti98 ti99 ti100 ti101 ti102 ti104 ti105 ti106 ti107 ti108 Row.D Node.D Row.D_len Node.D_len
noncomputable def blueprint_ascending_l0 (v1 : List Int) (v8 : Int) : Option ((Int) ⊕ (Bool)) :=
  bif decide (v8 < (v1.length : Int)) then (bif decide (v8 > 0) then ((rd v1 (IntKind.i64.wrap (v8 - 1))).bind fun v11 => (rd v1 v8).bind fun v12 => bif decide (v11 ≥ v12) then (exitO (some (false : Bool))) else (contO (IntKind.i64.wrap (v8 + 1) : Int))) else (contO (IntKind.i64.wrap (v8 + 1) : Int))) else (exitO (some (true : Bool)))
noncomputable def blueprint_ascending (v1 : List Int) : Option (Bool) :=
  iter (fun g : Int => blueprint_ascending_l0 v1 g) 0
theorem blueprint_ascending_ok (v1 : List Int) (r : Bool) (hx : blueprint_ascending v1 = some r) :
    ACalls Try.prog 71 [.d (.sl (List.map iD v1))] [] (.d (.bool r)) [] := by
  refine ACalls.of_sem (n := 24) 0 [2] (fn := Try.f71) Try.func71 rfl rfl (.one rfl) rfl (by simp) (by intro i; simp only [hget]; (repeat' split) <;> simp <;> omega) ?_
  unfold blueprint_ascending at hx
  refine Walk.seq (Walk.region' rfl fun K hK => ?_)
  simp only [go_sem, seval]
  refine hK _ ?_
  clear hK K
  refine Walk.seq (Walk.seq (Walk.region' rfl fun K hK => ?_))
  simp only [go_sem, seval]
  refine hK _ ?_
  clear hK K
  refine Walk.block (Walk.loop ?_)
  refine Walk.weaken ⟨[(0, .d (.sl (List.map iD v1))), (5, .d (.int .i64 (v1.length : Int))), (6, .d (.int .i64 0))], []⟩ (by simp <;> omega) (by simp <;> omega) ?_
  refine Walk.iter (σ := Int) (fun g => ⟨[(0, .d (.sl (List.map iD v1))), (5, .d (.int .i64 (v1.length : Int))), (6, .d (.int .i64 g))], []⟩) (fun g : Int => blueprint_ascending_l0 v1 g) _ (fun v8 y63 hx ih45 hr46 => ?_) 0 hx
  unfold blueprint_ascending_l0 at hx
  try dsimp only at hx ⊢
  refine Walk.seq (Walk.region' rfl fun K hK => ?_)
  simp only [go_sem, seval]
  refine hK _ ?_
  clear hK K
  refine Walk.seq (Walk.condO rfl hx (fun c48 hx => ?_) (fun c48 hx => ?_))
  · refine Walk.skip (Walk.seq (Walk.block (Walk.seq (Walk.region' rfl fun K hK => ?_))))
    simp only [go_sem, seval, c48]
    refine hK _ ?_
    clear hK K
    refine Walk.seq (Walk.drawn' rfl mixed fun K hK => ?_)
    simp only [go_sem, seval, c48]
    refine VGdO hx (fun g49 hx => ?_) (fun g49 hx => ?_)
    · obtain ⟨v11, r50, a51, b52, c53, hx⟩ := rd_elim hx
      obtain ⟨v12, r54, a55, b56, c57, hx⟩ := rd_elim hx
      simp only [go_sem, seval, c48, g49, a51, b52, c53, a55, b56, c57]
      repeat refine And.intro (by first | omega | (simp; done) | (simp; omega)) ?_
      refine hK _ _ (by kernel_rfl) (by simp [c48, g49, a51, b52, c53, a55, b56, c57]) ?_
      clear hK K
      refine Walk.condO rfl hx (fun c58 hx => ?_) (fun c58 hx => ?_)
      · refine Walk.seq (Walk.region' rfl fun K hK => ?_)
        simp only [go_sem, seval, c48, g49, a51, b52, c53, a55, b56, c57, c58]
        refine hK _ ?_
        clear hK K
        obtain ⟨z59, e60, hx⟩ := exit_elim hx
        rw [hr46 z59 e60] at hx
        obtain rfl := Option.some.inj hx
        exact Walk.ret ⟨by simp [c48, g49, a51, b52, c53, a55, b56, c57, c58], by simp [c48, g49, a51, b52, c53, a55, b56, c57, c58]⟩
      refine Walk.skip (Walk.inBlock (Walk.region' rfl fun K hK => ?_))
      simp only [go_sem, seval, c48, g49, a51, b52, c53, a55, b56, c57, c58]
      refine hK _ ?_
      clear hK K
      exact Walk.weaken _ (by simp [c48, g49, a51, b52, c53, a55, b56, c57, c58] <;> omega) (by simp [c48, g49, a51, b52, c53, a55, b56, c57, c58] <;> omega) (ih45 _ (cont_elim hx))
    simp only [go_sem, seval, c48, g49]
    refine hK _ _ (by kernel_rfl) (by simp [c48, g49]) ?_
    clear hK K
    refine Walk.condF rfl (Walk.skip (Walk.inBlock (Walk.region' rfl fun K hK => ?_)))
    simp only [go_sem, seval, c48, g49]
    refine hK _ ?_
    clear hK K
    exact Walk.weaken _ (by simp [c48, g49] <;> omega) (by simp [c48, g49] <;> omega) (ih45 _ (cont_elim hx))
  refine Walk.exit rfl ?_
  obtain ⟨z61, e62, hx⟩ := exit_elim hx
  rw [hr46 z61 e62] at hx
  refine Walk.seq (Walk.region' rfl fun K hK => ?_)
  simp only [go_sem, seval, c48]
  refine hK _ ?_
  clear hK K
  obtain rfl := Option.some.inj hx
  exact Walk.ret ⟨by simp [c48], by simp [c48]⟩
noncomputable def blueprint_choice (v1 : List Int) (v2 : Int) : Option (Bool) :=
  (blueprint_ascending v1).bind fun v6 => bif v6 then ((blueprint_in (IntKind.i64.wrap (v2 - 1)) v1).bind fun v7 => some (v7 : Bool)) else (some (false : Bool))
theorem blueprint_choice_ok (v1 : List Int) (v2 : Int) (r : Bool) (hx : blueprint_choice v1 v2 = some r) :
    ACalls Try.prog 59 [.d (.sl (List.map iD v1)), .d (.int .i64 v2)] [] (.d (.bool r)) [] := by
  refine ACalls.of_sem (n := 13) 0 [4] (fn := Try.f59) Try.func59 rfl rfl (.one rfl) rfl (by simp) (by intro i; simp only [hget]; (repeat' split) <;> simp <;> omega) ?_
  unfold blueprint_choice at hx
  refine Walk.seq (Walk.region' rfl fun K hK => ?_)
  simp only [go_sem, seval]
  refine hK _ ?_
  clear hK K
  refine Walk.seq (Walk.region' rfl fun K hK => ?_)
  obtain ⟨v6, h4, hx⟩ := bind_elim hx
  simp only [go_sem, seval]
  refine VCl.pure rfl (by simp only [go_sem, seval]; try simp) (blueprint_ascending_ok v1 _ h4) (by simp only [go_sem, seval]; try simp) (by simp only [go_sem, seval]; try simp) (by simp only [go_sem, seval]; try simp) (by simp only [go_sem, seval]; try simp) (by simp only [go_sem, seval]; try simp) (by simp only [go_sem, seval]; try simp) ?_
  simp only [go_sem, seval]
  refine VGdO hx (fun g5 hx => ?_) (fun g5 hx => ?_)
  · obtain ⟨v7, h6, hx⟩ := bind_elim hx
    simp only [go_sem, seval, g5]
    refine VCl.pure rfl (by simp only [go_sem, seval, g5]; try simp) (blueprint_in_ok (IntKind.i64.wrap (v2 - 1)) v1 _ h6) (by simp only [go_sem, seval, g5]; try simp) (by simp only [go_sem, seval, g5]; try simp) (by simp only [go_sem, seval, g5]; try simp) (by simp only [go_sem, seval, g5]; try simp) (by simp only [go_sem, seval, g5]; try simp) (by simp only [go_sem, seval, g5]; try simp) ?_
    simp only [go_sem, seval, g5]
    refine hK _ ?_
    clear hK K
    obtain rfl := Option.some.inj hx
    exact Walk.ret ⟨by simp [g5], by simp [g5]⟩
  simp only [go_sem, seval, g5]
  refine hK _ ?_
  clear hK K
  obtain rfl := Option.some.inj hx
  exact Walk.ret ⟨by simp [g5], by simp [g5]⟩
noncomputable def blueprint_sum_l0 (v2 : List Int) (v1 : List Int) (v14 : Int) (v15 : Int) : Option ((Int × Int) ⊕ (Int)) :=
  bif decide (v15 < (v2.length : Int)) then ((rd v2 v15).bind fun v18 => (rd v1 v18).bind fun v19 => contO ((IntKind.i64.wrap (v14 + v19), IntKind.i64.wrap (v15 + 1)) : Int × Int)) else (exitO (some (v14 : Int)))
noncomputable def blueprint_sum (v1 : List Int) (v2 : List Int) : Option (Int) :=
  iter (fun g : Int × Int => blueprint_sum_l0 v2 v1 g.1 g.2) (0, 0)
theorem blueprint_sum_ok (v1 : List Int) (v2 : List Int) (r : Int) (hx : blueprint_sum v1 v2 = some r) :
    ACalls Try.prog 60 [.d (.sl (List.map iD v1)), .d (.sl (List.map iD v2))] [] (.d (.int .i64 r)) [] := by
  refine ACalls.of_sem (n := 22) 0 [4] (fn := Try.f60) Try.func60 rfl rfl (.one rfl) rfl (by simp) (by intro i; simp only [hget]; (repeat' split) <;> simp <;> omega) ?_
  unfold blueprint_sum at hx
  refine Walk.seq (Walk.region' rfl fun K hK => ?_)
  simp only [go_sem, seval]
  refine hK _ ?_
  clear hK K
  refine Walk.seq (Walk.region' rfl fun K hK => ?_)
  simp only [go_sem, seval]
  refine hK _ ?_
  clear hK K
  refine Walk.seq (Walk.seq (Walk.region' rfl fun K hK => ?_))
  simp only [go_sem, seval]
  refine hK _ ?_
  clear hK K
  refine Walk.block (Walk.loop ?_)
  refine Walk.weaken ⟨[(0, .d (.sl (List.map iD v1))), (5, .d (.int .i64 0)), (8, .d (.sl (List.map iD v2))), (9, .d (.int .i64 (v2.length : Int))), (10, .d (.int .i64 0))], []⟩ (by simp <;> omega) (by simp <;> omega) ?_
  refine Walk.iter (σ := Int × Int) (fun g => ⟨[(0, .d (.sl (List.map iD v1))), (5, .d (.int .i64 g.1)), (8, .d (.sl (List.map iD v2))), (9, .d (.int .i64 (v2.length : Int))), (10, .d (.int .i64 g.2))], []⟩) (fun g : Int × Int => blueprint_sum_l0 v2 v1 g.1 g.2) _ (fun g y69 hx ih55 hr56 => ?_) (0, 0) hx
  obtain ⟨v14, v15⟩ := g
  unfold blueprint_sum_l0 at hx
  try dsimp only at hx ⊢
  refine Walk.seq (Walk.region' rfl fun K hK => ?_)
  simp only [go_sem, seval]
  refine hK _ ?_
  clear hK K
  refine Walk.seq (Walk.condO rfl hx (fun c58 hx => ?_) (fun c58 hx => ?_))
  · refine Walk.skip (Walk.seq (Walk.block (Walk.seq (Walk.region' rfl fun K hK => ?_))))
    obtain ⟨v18, r59, a60, b61, c62, hx⟩ := rd_elim hx
    simp only [go_sem, seval, c58, a60, b61, c62]
    repeat refine And.intro (by first | omega | (simp; done) | (simp; omega)) ?_
    refine hK _ ?_
    clear hK K
    refine Walk.region' rfl fun K hK => ?_
    obtain ⟨v19, r63, a64, b65, c66, hx⟩ := rd_elim hx
    simp only [go_sem, seval, c58, a60, b61, c62, a64, b65, c66]
    repeat refine And.intro (by first | omega | (simp; done) | (simp; omega)) ?_
    refine hK _ ?_
    clear hK K
    refine Walk.inBlock (Walk.region' rfl fun K hK => ?_)
    simp only [go_sem, seval, c58, a60, b61, c62, a64, b65, c66]
    refine hK _ ?_
    clear hK K
    exact Walk.weaken _ (by simp [c58, a60, b61, c62, a64, b65, c66] <;> omega) (by simp [c58, a60, b61, c62, a64, b65, c66] <;> omega) (ih55 _ (cont_elim hx))
  refine Walk.exit rfl ?_
  obtain ⟨z67, e68, hx⟩ := exit_elim hx
  rw [hr56 z67 e68] at hx
  refine Walk.seq (Walk.region' rfl fun K hK => ?_)
  simp only [go_sem, seval, c58]
  refine hK _ ?_
  clear hK K
  obtain rfl := Option.some.inj hx
  exact Walk.ret ⟨by simp [c58], by simp [c58]⟩
noncomputable def blueprint_Cost (v1 : List Int) (v2 : List Row) (v3 : List Int) : Option (Int × Bool) :=
  (blueprint_Valid v1 v2).bind fun v13 => bif !v13 then (some ((0, false) : Int × Bool)) else ((blueprint_choice v3 (v1.length : Int)).bind fun v14 => bif !v14 then (some ((0, false) : Int × Bool)) else ((blueprint_sum v1 v3).bind fun v15 => some ((v15, true) : Int × Bool)))
theorem blueprint_Cost_ok (v1 : List Int) (v2 : List Row) (v3 : List Int) (r : Int × Bool) (hx : blueprint_Cost v1 v2 v3 = some r) :
    ACalls Try.prog 35 [.agg [.d (.sl (List.map iD v1)), .d (.sl (List.map Row.D v2))], .d (.sl (List.map iD v3))] [] (.tup [.d (.int .i64 r.1), .d (.bool r.2)]) [] := by
  refine ACalls.of_sem (n := 21) 0 [4, 5] (fn := Try.f35) Try.func35 rfl rfl (.two rfl) rfl (by simp) (by intro i; simp only [hget]; (repeat' split) <;> simp <;> omega) ?_
  unfold blueprint_Cost at hx
  refine Walk.seq (Walk.region' rfl fun K hK => ?_)
  simp only [go_sem, seval]
  refine hK _ ?_
  clear hK K
  refine Walk.seq (Walk.seq (Walk.region' rfl fun K hK => ?_))
  obtain ⟨v13, h15, hx⟩ := bind_elim hx
  simp only [go_sem, seval]
  refine VCl.pure rfl (by simp only [go_sem, seval]; try simp) (blueprint_Valid_ok v1 v2 _ h15) (by simp only [go_sem, seval]; try simp) (by simp only [go_sem, seval]; try simp) (by simp only [go_sem, seval]; try simp) (by simp only [go_sem, seval]; try simp) (by simp only [go_sem, seval]; try simp) (by simp only [go_sem, seval]; try simp) ?_
  simp only [go_sem, seval]
  refine VGdO hx (fun g16 hx => ?_) (fun g16 hx => ?_)
  · simp only [go_sem, seval, g16]
    refine hK _ ?_
    clear hK K
    refine Walk.condT rfl (Walk.seq (Walk.region' rfl fun K hK => ?_))
    simp only [go_sem, seval, g16]
    refine hK _ ?_
    clear hK K
    obtain rfl := Option.some.inj hx
    exact Walk.ret ⟨by simp [g16], by simp [g16]⟩
  obtain ⟨v14, h17, hx⟩ := bind_elim hx
  simp only [go_sem, seval, g16]
  refine VCl.pure rfl (by simp only [go_sem, seval, g16]; try simp) (blueprint_choice_ok v3 (v1.length : Int) _ h17) (by simp only [go_sem, seval, g16]; try simp) (by simp only [go_sem, seval, g16]; try simp) (by simp only [go_sem, seval, g16]; try simp) (by simp only [go_sem, seval, g16]; try simp) (by simp only [go_sem, seval, g16]; try simp) (by simp only [go_sem, seval, g16]; try simp) ?_
  simp only [go_sem, seval, g16]
  refine hK _ ?_
  clear hK K
  refine Walk.condO rfl hx (fun c19 hx => ?_) (fun c19 hx => ?_)
  · refine Walk.seq (Walk.region' rfl fun K hK => ?_)
    simp only [go_sem, seval, g16, c19]
    refine hK _ ?_
    clear hK K
    obtain rfl := Option.some.inj hx
    exact Walk.ret ⟨by simp [g16, c19], by simp [g16, c19]⟩
  refine Walk.skip (Walk.seq (Walk.region' rfl fun K hK => ?_))
  obtain ⟨v15, h20, hx⟩ := bind_elim hx
  simp only [go_sem, seval, g16, c19]
  refine VCl.pure rfl (by simp only [go_sem, seval, g16, c19]; try simp) (blueprint_sum_ok v1 v3 _ h20) (by simp only [go_sem, seval, g16, c19]; try simp) (by simp only [go_sem, seval, g16, c19]; try simp) (by simp only [go_sem, seval, g16, c19]; try simp) (by simp only [go_sem, seval, g16, c19]; try simp) (by simp only [go_sem, seval, g16, c19]; try simp) (by simp only [go_sem, seval, g16, c19]; try simp) ?_
  simp only [go_sem, seval, g16, c19]
  refine hK _ ?_
  clear hK K
  obtain rfl := Option.some.inj hx
  exact Walk.ret ⟨by simp [g16, c19], by simp [g16, c19]⟩
noncomputable def blueprint_Meets_l0 (v2 : List Row) (v3 : List Int) (v22 : Int) : Option ((Int) ⊕ (Bool)) :=
  bif decide (v22 < (v2.length : Int)) then ((rd v2 v22).bind fun v25 => (blueprint_sum v25.Coefs v3).bind fun v26 => bif decide (v26 < v25.Least) then (exitO (some (false : Bool))) else (bif decide (v26 > v25.Most) then (exitO (some (false : Bool))) else (contO (IntKind.i64.wrap (v22 + 1) : Int)))) else (exitO (some (true : Bool)))
noncomputable def blueprint_Meets (v1 : List Int) (v2 : List Row) (v3 : List Int) : Option (Bool) :=
  (blueprint_Valid v1 v2).bind fun v18 => bif !v18 then (some (false : Bool)) else ((blueprint_choice v3 (v1.length : Int)).bind fun v19 => bif !v19 then (some (false : Bool)) else (iter (fun g : Int => blueprint_Meets_l0 v2 v3 g) 0))
theorem blueprint_Meets_ok (v1 : List Int) (v2 : List Row) (v3 : List Int) (r : Bool) (hx : blueprint_Meets v1 v2 v3 = some r) :
    ACalls Try.prog 37 [.agg [.d (.sl (List.map iD v1)), .d (.sl (List.map Row.D v2))], .d (.sl (List.map iD v3))] [] (.d (.bool r)) [] := by
  refine ACalls.of_sem (n := 41) 0 [4] (fn := Try.f37) Try.func37 rfl rfl (.one rfl) rfl (by simp) (by intro i; simp only [hget]; (repeat' split) <;> simp <;> omega) ?_
  unfold blueprint_Meets at hx
  refine Walk.seq (Walk.region' rfl fun K hK => ?_)
  simp only [go_sem, seval]
  refine hK _ ?_
  clear hK K
  refine Walk.seq (Walk.seq (Walk.region' rfl fun K hK => ?_))
  obtain ⟨v18, h45, hx⟩ := bind_elim hx
  simp only [go_sem, seval]
  refine VCl.pure rfl (by simp only [go_sem, seval]; try simp) (blueprint_Valid_ok v1 v2 _ h45) (by simp only [go_sem, seval]; try simp) (by simp only [go_sem, seval]; try simp) (by simp only [go_sem, seval]; try simp) (by simp only [go_sem, seval]; try simp) (by simp only [go_sem, seval]; try simp) (by simp only [go_sem, seval]; try simp) ?_
  simp only [go_sem, seval]
  refine VGdO hx (fun g46 hx => ?_) (fun g46 hx => ?_)
  · simp only [go_sem, seval, g46]
    refine hK _ ?_
    clear hK K
    refine Walk.condT rfl (Walk.seq (Walk.region' rfl fun K hK => ?_))
    simp only [go_sem, seval, g46]
    refine hK _ ?_
    clear hK K
    obtain rfl := Option.some.inj hx
    exact Walk.ret ⟨by simp [g46], by simp [g46]⟩
  obtain ⟨v19, h47, hx⟩ := bind_elim hx
  simp only [go_sem, seval, g46]
  refine VCl.pure rfl (by simp only [go_sem, seval, g46]; try simp) (blueprint_choice_ok v3 (v1.length : Int) _ h47) (by simp only [go_sem, seval, g46]; try simp) (by simp only [go_sem, seval, g46]; try simp) (by simp only [go_sem, seval, g46]; try simp) (by simp only [go_sem, seval, g46]; try simp) (by simp only [go_sem, seval, g46]; try simp) (by simp only [go_sem, seval, g46]; try simp) ?_
  simp only [go_sem, seval, g46]
  refine hK _ ?_
  clear hK K
  refine Walk.condO rfl hx (fun c49 hx => ?_) (fun c49 hx => ?_)
  · refine Walk.seq (Walk.region' rfl fun K hK => ?_)
    simp only [go_sem, seval, g46, c49]
    refine hK _ ?_
    clear hK K
    obtain rfl := Option.some.inj hx
    exact Walk.ret ⟨by simp [g46, c49], by simp [g46, c49]⟩
  refine Walk.skip (Walk.seq (Walk.seq (Walk.region' rfl fun K hK => ?_)))
  simp only [go_sem, seval, g46, c49]
  refine hK _ ?_
  clear hK K
  refine Walk.block (Walk.loop ?_)
  refine Walk.weaken ⟨[(1, .d (.sl (List.map iD v3))), (20, .d (.sl (List.map Row.D v2))), (21, .d (.int .i64 (v2.length : Int))), (22, .d (.int .i64 0))], []⟩ (by simp [g46, c49] <;> omega) (by simp [g46, c49] <;> omega) ?_
  refine Walk.iter (σ := Int) (fun g => ⟨[(1, .d (.sl (List.map iD v3))), (20, .d (.sl (List.map Row.D v2))), (21, .d (.int .i64 (v2.length : Int))), (22, .d (.int .i64 g))], []⟩) (fun g : Int => blueprint_Meets_l0 v2 v3 g) _ (fun v22 y85 hx ih68 hr69 => ?_) 0 hx
  unfold blueprint_Meets_l0 at hx
  try dsimp only at hx ⊢
  refine Walk.seq (Walk.region' rfl fun K hK => ?_)
  simp only [go_sem, seval, g46, c49]
  refine hK _ ?_
  clear hK K
  refine Walk.seq (Walk.condO rfl hx (fun c71 hx => ?_) (fun c71 hx => ?_))
  · refine Walk.skip (Walk.seq (Walk.block (Walk.seq (Walk.region' rfl fun K hK => ?_))))
    obtain ⟨v25, r72, a73, b74, c75, hx⟩ := rd_elim hx
    simp only [go_sem, seval, g46, c49, c71, a73, b74, c75]
    repeat refine And.intro (by first | omega | (simp; done) | (simp; omega)) ?_
    refine hK _ ?_
    clear hK K
    refine Walk.seq (Walk.region' rfl fun K hK => ?_)
    obtain ⟨v26, h76, hx⟩ := bind_elim hx
    simp only [go_sem, seval, g46, c49, c71, a73, b74, c75]
    refine VCl.pure rfl (by simp only [go_sem, seval, g46, c49, c71, a73, b74, c75]; try simp) (blueprint_sum_ok v25.Coefs v3 _ h76) (by simp only [go_sem, seval, g46, c49, c71, a73, b74, c75]; try simp) (by simp only [go_sem, seval, g46, c49, c71, a73, b74, c75]; try simp) (by simp only [go_sem, seval, g46, c49, c71, a73, b74, c75]; try simp) (by simp only [go_sem, seval, g46, c49, c71, a73, b74, c75]; try simp) (by simp only [go_sem, seval, g46, c49, c71, a73, b74, c75]; try simp) (by simp only [go_sem, seval, g46, c49, c71, a73, b74, c75]; try simp) ?_
    simp only [go_sem, seval, g46, c49, c71, a73, b74, c75]
    refine hK _ ?_
    clear hK K
    refine Walk.seq (Walk.region' rfl fun K hK => ?_)
    simp only [go_sem, seval, g46, c49, c71, a73, b74, c75]
    refine VGdO hx (fun g77 hx => ?_) (fun g77 hx => ?_)
    · simp only [go_sem, seval, g46, c49, c71, a73, b74, c75, g77]
      refine hK _ ?_
      clear hK K
      refine Walk.condT rfl (Walk.seq (Walk.region' rfl fun K hK => ?_))
      simp only [go_sem, seval, g46, c49, c71, a73, b74, c75, g77]
      refine hK _ ?_
      clear hK K
      obtain ⟨z78, e79, hx⟩ := exit_elim hx
      rw [hr69 z78 e79] at hx
      obtain rfl := Option.some.inj hx
      exact Walk.ret ⟨by simp [g46, c49, c71, a73, b74, c75, g77], by simp [g46, c49, c71, a73, b74, c75, g77]⟩
    simp only [go_sem, seval, g46, c49, c71, a73, b74, c75, g77]
    refine hK _ ?_
    clear hK K
    refine Walk.condO rfl hx (fun c80 hx => ?_) (fun c80 hx => ?_)
    · refine Walk.seq (Walk.region' rfl fun K hK => ?_)
      simp only [go_sem, seval, g46, c49, c71, a73, b74, c75, g77, c80]
      refine hK _ ?_
      clear hK K
      obtain ⟨z81, e82, hx⟩ := exit_elim hx
      rw [hr69 z81 e82] at hx
      obtain rfl := Option.some.inj hx
      exact Walk.ret ⟨by simp [g46, c49, c71, a73, b74, c75, g77, c80], by simp [g46, c49, c71, a73, b74, c75, g77, c80]⟩
    refine Walk.skip (Walk.inBlock (Walk.region' rfl fun K hK => ?_))
    simp only [go_sem, seval, g46, c49, c71, a73, b74, c75, g77, c80]
    refine hK _ ?_
    clear hK K
    exact Walk.weaken _ (by simp [g46, c49, c71, a73, b74, c75, g77, c80] <;> omega) (by simp [g46, c49, c71, a73, b74, c75, g77, c80] <;> omega) (ih68 _ (cont_elim hx))
  refine Walk.exit rfl ?_
  obtain ⟨z83, e84, hx⟩ := exit_elim hx
  rw [hr69 z83 e84] at hx
  refine Walk.seq (Walk.region' rfl fun K hK => ?_)
  simp only [go_sem, seval, g46, c49, c71]
  refine hK _ ?_
  clear hK K
  obtain rfl := Option.some.inj hx
  exact Walk.ret ⟨by simp [g46, c49, c71], by simp [g46, c49, c71]⟩
noncomputable def math_bits_Mul64 (v1 : Int) (v2 : Int) : Option (Int × Int) :=
  some ((IntKind.u64.wrap ((IntKind.u64.wrap ((IntKind.u64.wrap (((v1 / 2 ^ (min (32 : Int).toNat 64))) * ((v2 / 2 ^ (min (32 : Int).toNat 64))))) + (((IntKind.u64.wrap ((IntKind.u64.wrap (((v1 / 2 ^ (min (32 : Int).toNat 64))) * (Go.bits .and .u64 v2 4294967295))) + (((IntKind.u64.wrap ((Go.bits .and .u64 v1 4294967295) * (Go.bits .and .u64 v2 4294967295))) / 2 ^ (min (32 : Int).toNat 64))))) / 2 ^ (min (32 : Int).toNat 64))))) + (((IntKind.u64.wrap (((Go.bits .and .u64 (IntKind.u64.wrap ((IntKind.u64.wrap (((v1 / 2 ^ (min (32 : Int).toNat 64))) * (Go.bits .and .u64 v2 4294967295))) + (((IntKind.u64.wrap ((Go.bits .and .u64 v1 4294967295) * (Go.bits .and .u64 v2 4294967295))) / 2 ^ (min (32 : Int).toNat 64))))) 4294967295)) + (IntKind.u64.wrap ((Go.bits .and .u64 v1 4294967295) * ((v2 / 2 ^ (min (32 : Int).toNat 64))))))) / 2 ^ (min (32 : Int).toNat 64)))), IntKind.u64.wrap (v1 * v2)) : Int × Int)
theorem math_bits_Mul64_ok (v1 : Int) (v2 : Int) (r : Int × Int) (hx : math_bits_Mul64 v1 v2 = some r) :
    ACalls Try.prog 76 [.d (.int .u64 v1), .d (.int .u64 v2)] [] (.tup [.d (.int .u64 r.1), .d (.int .u64 r.2)]) [] := by
  refine ACalls.of_sem (n := 51) 0 [4, 5] (fn := Try.f76) Try.func76 rfl rfl (.two rfl) rfl (by simp) (by intro i; simp only [hget]; (repeat' split) <;> simp <;> omega) ?_
  unfold math_bits_Mul64 at hx
  refine Walk.seq (Walk.region' rfl fun K hK => ?_)
  simp only [go_sem, seval]
  refine hK _ ?_
  clear hK K
  refine Walk.seq (Walk.region' rfl fun K hK => ?_)
  simp only [go_sem, seval]
  refine hK _ ?_
  clear hK K
  refine Walk.seq (Walk.region' rfl fun K hK => ?_)
  simp only [go_sem, seval]
  refine hK _ ?_
  clear hK K
  refine Walk.seq (Walk.region' rfl fun K hK => ?_)
  simp only [go_sem, seval]
  refine hK _ ?_
  clear hK K
  refine Walk.seq (Walk.region' rfl fun K hK => ?_)
  simp only [go_sem, seval]
  refine hK _ ?_
  clear hK K
  refine Walk.seq (Walk.region' rfl fun K hK => ?_)
  simp only [go_sem, seval]
  refine hK _ ?_
  clear hK K
  refine Walk.seq (Walk.region' rfl fun K hK => ?_)
  simp only [go_sem, seval]
  refine hK _ ?_
  clear hK K
  refine Walk.seq (Walk.region' rfl fun K hK => ?_)
  simp only [go_sem, seval]
  refine hK _ ?_
  clear hK K
  refine Walk.seq (Walk.region' rfl fun K hK => ?_)
  simp only [go_sem, seval]
  refine hK _ ?_
  clear hK K
  refine Walk.seq (Walk.region' rfl fun K hK => ?_)
  simp only [go_sem, seval]
  refine hK _ ?_
  clear hK K
  refine Walk.seq (Walk.region' rfl fun K hK => ?_)
  simp only [go_sem, seval]
  refine hK _ ?_
  clear hK K
  refine Walk.seq (Walk.region' rfl fun K hK => ?_)
  simp only [go_sem, seval]
  refine hK _ ?_
  clear hK K
  obtain rfl := Option.some.inj hx
  exact Walk.ret ⟨by simp, by simp⟩
noncomputable def math_bits_Mul (v1 : Int) (v2 : Int) : Option (Int × Int) :=
  (math_bits_Mul64 v1 v2).bind fun v6 => some ((v6.1, v6.2) : Int × Int)
theorem math_bits_Mul_ok (v1 : Int) (v2 : Int) (r : Int × Int) (hx : math_bits_Mul v1 v2 = some r) :
    ACalls Try.prog 69 [.d (.int .u64 v1), .d (.int .u64 v2)] [] (.tup [.d (.int .u64 r.1), .d (.int .u64 r.2)]) [] := by
  refine ACalls.of_sem (n := 30) 0 [4, 5] (fn := Try.f69) Try.func69 rfl rfl (.two rfl) rfl (by simp) (by intro i; simp only [hget]; (repeat' split) <;> simp <;> omega) ?_
  unfold math_bits_Mul at hx
  refine Walk.seq (Walk.region' rfl fun K hK => ?_)
  simp only [go_sem, seval]
  refine hK _ ?_
  clear hK K
  refine Walk.seq (Walk.condF rfl (Walk.skip (Walk.seq (Walk.region' rfl fun K hK => ?_))))
  obtain ⟨v6, h2, hx⟩ := bind_elim hx
  simp only [go_sem, seval]
  refine VCl.pure rfl (by simp only [go_sem, seval]; try simp) (math_bits_Mul64_ok v1 v2 _ h2) (by simp only [go_sem, seval]; try simp) (by simp only [go_sem, seval]; try simp) (by simp only [go_sem, seval]; try simp) (by simp only [go_sem, seval]; try simp) (by simp only [go_sem, seval]; try simp) (by simp only [go_sem, seval]; try simp) ?_
  simp only [go_sem, seval]
  refine hK _ ?_
  clear hK K
  refine Walk.seq (Walk.region' rfl fun K hK => ?_)
  simp only [go_sem, seval]
  refine hK _ ?_
  clear hK K
  obtain rfl := Option.some.inj hx
  exact Walk.ret ⟨by simp, by simp⟩
noncomputable def slices_Repeat_int_l0 (v8 : Int) (v9 : List Int) : Option ((Int × List Int) ⊕ (List Int)) :=
  bif decide (v8 < (v9.length : Int)) then (chk (0 ≤ v8 ∧ v8 ≤ (v9.length : Int)) (chk (0 ≤ v8 ∧ v8 ≤ (v9.length : Int)) (contO ((IntKind.i64.wrap (v8 + (((min ((v9.take ((v8).toNat))).length ((v9.length - (v8).toNat)) : Nat) : Int))), (spl v9 ((v8).toNat) (((v9.take ((v8).toNat))).take ((v9.length - (v8).toNat))))) : Int × List Int)))) else (exitO (some (v9 : List Int)))
noncomputable def slices_Repeat_int (v1 : List Int) (v2 : Int) : Option (List Int) :=
  bif decide (v2 < 0) then none else ((math_bits_Mul (IntKind.u64.wrap ((v1.length : Int))) (IntKind.u64.wrap (v2))).bind fun v7 => bif decide (v7.1 > 0) then none else (bif decide (v7.2 > 9223372036854775807) then none else (chk ((0 : Int) ≤ (IntKind.i64.wrap (v7.2)) ∧ (IntKind.i64.wrap (v7.2)) = (IntKind.i64.wrap (v7.2)) ∧ 8 * (IntKind.i64.wrap (v7.2)) ≤ 281474976710656 ∧ (IntKind.i64.wrap (v7.2)) ≤ 281474976710656) (iter (fun g : Int × List Int => slices_Repeat_int_l0 g.1 g.2) (((min v1.length (((List.replicate (IntKind.i64.wrap (v7.2)).toNat (0 : Int))).length) : Nat) : Int), (spl ((List.replicate (IntKind.i64.wrap (v7.2)).toNat (0 : Int))) 0 (v1.take (((List.replicate (IntKind.i64.wrap (v7.2)).toNat (0 : Int))).length))))))))
theorem slices_Repeat_int_ok (v1 : List Int) (v2 : Int) (r : List Int) (hx : slices_Repeat_int v1 v2 = some r) :
    ACalls Try.prog 49 [.d (.sl (List.map iD v1)), .d (.int .i64 v2)] [] (.d (.sl (List.map iD r))) [] := by
  refine ACalls.of_sem (n := 48) 100000 [4] (fn := Try.f49) Try.func49 rfl rfl (.one rfl) rfl (by simp) (by intro i; simp only [hget]; (repeat' split) <;> simp <;> omega) ?_
  unfold slices_Repeat_int at hx
  refine Walk.seq (Walk.region' rfl fun K hK => ?_)
  simp only [go_sem, seval]
  refine hK _ ?_
  clear hK K
  refine Walk.seq (Walk.seq (Walk.region' rfl fun K hK => ?_))
  simp only [go_sem, seval]
  refine hK _ ?_
  clear hK K
  refine Walk.condO rfl hx (fun c32 hx => ?_) (fun c32 hx => ?_)
  · exact absurd hx (by simp)
  refine Walk.skip (Walk.seq (Walk.region' rfl fun K hK => ?_))
  obtain ⟨v7, h33, hx⟩ := bind_elim hx
  simp only [go_sem, seval, c32]
  refine VCl.pure rfl (by simp only [go_sem, seval, c32]; try simp) (math_bits_Mul_ok (IntKind.u64.wrap ((v1.length : Int))) (IntKind.u64.wrap (v2)) _ h33) (by simp only [go_sem, seval, c32]; try simp) (by simp only [go_sem, seval, c32]; try simp) (by simp only [go_sem, seval, c32]; try simp) (by simp only [go_sem, seval, c32]; try simp) (by simp only [go_sem, seval, c32]; try simp) (by simp only [go_sem, seval, c32]; try simp) ?_
  simp only [go_sem, seval, c32]
  refine hK _ ?_
  clear hK K
  refine Walk.seq (Walk.seq (Walk.region' rfl fun K hK => ?_))
  simp only [go_sem, seval, c32]
  refine VGdO hx (fun g36 hx => ?_) (fun g36 hx => ?_)
  · simp only [go_sem, seval, c32, g36]
    refine hK _ ?_
    clear hK K
    exact absurd hx (by simp)
  simp only [go_sem, seval, c32, g36]
  refine hK _ ?_
  clear hK K
  refine Walk.condO rfl hx (fun c38 hx => ?_) (fun c38 hx => ?_)
  · exact absurd hx (by simp)
  refine Walk.skip (Walk.seq (Walk.region' rfl fun K hK => ?_))
  obtain ⟨k39, hx⟩ := chk_elim hx
  simp only [go_sem, seval, c32, g36, c38, k39]
  repeat refine And.intro (by first | omega | (simp; done) | (simp; omega)) ?_
  refine hK _ ?_
  clear hK K
  refine Walk.weaken ⟨[(0, .d (.sl (List.map iD v1))), (7, .arr 100030 0 (((List.replicate (IntKind.i64.wrap (v7.2)).toNat (0 : Int))).length))], [(100030, some (.box (List.map iA ((List.replicate (IntKind.i64.wrap (v7.2)).toNat (0 : Int))))))]⟩ (by simp [c32, g36, c38, k39] <;> omega) (by simp [c32, g36, c38, k39] <;> omega) ?_
  refine Walk.seq (Walk.region' rfl fun K hK => ?_)
  simp only [go_sem, seval, c32, g36, c38, k39]
  refine hK _ ?_
  clear hK K
  refine Walk.weaken ⟨[(7, .arr 100030 0 (((spl ((List.replicate (IntKind.i64.wrap (v7.2)).toNat (0 : Int))) 0 (v1.take (((List.replicate (IntKind.i64.wrap (v7.2)).toNat (0 : Int))).length)))).length)), (8, .d (.int .i64 (((min v1.length (((List.replicate (IntKind.i64.wrap (v7.2)).toNat (0 : Int))).length) : Nat) : Int))))], [(100030, some (.box (List.map iA ((spl ((List.replicate (IntKind.i64.wrap (v7.2)).toNat (0 : Int))) 0 (v1.take (((List.replicate (IntKind.i64.wrap (v7.2)).toNat (0 : Int))).length)))))))]⟩ (by simp [c32, g36, c38, k39] <;> omega) (by simp [c32, g36, c38, k39] <;> omega) ?_
  refine Walk.seq (Walk.block (Walk.loop ?_))
  refine Walk.weaken ⟨[(7, .arr 100030 0 (((spl ((List.replicate (IntKind.i64.wrap (v7.2)).toNat (0 : Int))) 0 (v1.take (((List.replicate (IntKind.i64.wrap (v7.2)).toNat (0 : Int))).length)))).length)), (8, .d (.int .i64 (((min v1.length (((List.replicate (IntKind.i64.wrap (v7.2)).toNat (0 : Int))).length) : Nat) : Int))))], [(100030, some (.box (List.map iA ((spl ((List.replicate (IntKind.i64.wrap (v7.2)).toNat (0 : Int))) 0 (v1.take (((List.replicate (IntKind.i64.wrap (v7.2)).toNat (0 : Int))).length)))))))]⟩ (by simp [c32, g36, c38, k39] <;> omega) (by simp [c32, g36, c38, k39] <;> omega) ?_
  refine Walk.iter (σ := Int × List Int) (fun g => ⟨[(7, .arr 100030 0 g.2.length), (8, .d (.int .i64 g.1))], [(100030, some (.box (List.map iA g.2)))]⟩) (fun g : Int × List Int => slices_Repeat_int_l0 g.1 g.2) _ (fun g y59 hx ih50 hr51 => ?_) (((min v1.length (((List.replicate (IntKind.i64.wrap (v7.2)).toNat (0 : Int))).length) : Nat) : Int), (spl ((List.replicate (IntKind.i64.wrap (v7.2)).toNat (0 : Int))) 0 (v1.take (((List.replicate (IntKind.i64.wrap (v7.2)).toNat (0 : Int))).length)))) hx
  obtain ⟨v8, v9⟩ := g
  unfold slices_Repeat_int_l0 at hx
  try dsimp only at hx ⊢
  refine Walk.seq (Walk.seq (Walk.region' rfl fun K hK => ?_))
  simp only [go_sem, seval, c32, g36, c38, k39]
  refine hK _ ?_
  clear hK K
  refine Walk.condO rfl hx (fun c54 hx => ?_) (fun c54 hx => ?_)
  · refine Walk.skip (Walk.block (Walk.drawn' rfl mixed fun K hK => ?_))
    obtain ⟨k55, hx⟩ := chk_elim hx
    obtain ⟨k56, hx⟩ := chk_elim hx
    simp only [go_sem, seval, c32, g36, c38, k39, c54, k55, k56]
    repeat refine And.intro (by first | omega | (simp; done) | (simp; omega)) ?_
    refine hK _ _ (by kernel_rfl) (by simp [c32, g36, c38, k39, c54, k55, k56]) ?_
    clear hK K
    refine Walk.weaken ⟨[(7, .arr 100030 0 (((spl v9 ((v8).toNat) (((v9.take ((v8).toNat))).take ((v9.length - (v8).toNat))))).length)), (8, .d (.int .i64 (IntKind.i64.wrap (v8 + (((min ((v9.take ((v8).toNat))).length ((v9.length - (v8).toNat)) : Nat) : Int))))))], [(100030, some (.box (List.map iA ((spl v9 ((v8).toNat) (((v9.take ((v8).toNat))).take ((v9.length - (v8).toNat))))))))]⟩ (by simp [c32, g36, c38, k39, c54, k55, k56] <;> omega) (by simp [c32, g36, c38, k39, c54, k55, k56] <;> omega) ?_
    refine Walk.inBlock ?_
    exact Walk.weaken _ (by simp [c32, g36, c38, k39, c54, k55, k56] <;> omega) (by simp [c32, g36, c38, k39, c54, k55, k56] <;> omega) (ih50 _ (cont_elim hx))
  refine Walk.exit rfl ?_
  obtain ⟨z57, e58, hx⟩ := exit_elim hx
  rw [hr51 z57 e58] at hx
  refine Walk.seq (Walk.region' rfl fun K hK => ?_)
  simp only [go_sem, seval, c32, g36, c38, k39, c54]
  refine hK _ ?_
  clear hK K
  refine Walk.weaken ⟨[(4, .arr 100030 0 v9.length)], [(100030, some (.box (List.map iA v9)))]⟩ (by simp [c32, g36, c38, k39, c54] <;> omega) (by simp [c32, g36, c38, k39, c54] <;> omega) ?_
  refine Walk.freezeBox 100030 (List.map (D.int .i64) v9) [(4, .d (.sl (List.map iD v9)))] [] (by simp [map_iA, map_bA, map_sA, slD]) (by simp [one_iD, one_bD, one_slD, slD]) (by simp) ?_
  obtain rfl := Option.some.inj hx
  exact Walk.ret ⟨by simp [c32, g36, c38, k39, c54], by simp [c32, g36, c38, k39, c54]⟩
noncomputable def slices_Clone_int (v1 : List Int) : Option (List Int) :=
  chk (0 < v1.length) (chk ((0 + v1.length) * 8 ≤ 140737488355328) (some (([] ++ v1) : List Int)))
theorem slices_Clone_int_ok (v1 : List Int) (r : List Int) (hx : slices_Clone_int v1 = some r) :
    ACalls Try.prog 50 [.d (.sl (List.map iD v1))] [] (.arr 2000 0 r.length) [(2000, some (.arr 3 1 (List.map iD r)))] := by
  refine ACalls.of_sem (n := 8) 0 [2] (fn := Try.f50) Try.func50 rfl rfl (.one rfl) rfl (by simp) (by intro i; simp only [hget]; (repeat' split) <;> simp <;> omega) ?_
  unfold slices_Clone_int at hx
  refine Walk.seq (Walk.region' rfl fun K hK => ?_)
  simp only [go_sem, seval]
  refine hK _ ?_
  clear hK K
  refine Walk.seq (Walk.seq (Walk.region' rfl fun K hK => ?_))
  obtain ⟨k3, hx⟩ := chk_elim hx
  simp only [go_sem, seval, k3]
  repeat refine And.intro (by first | omega | (simp; done) | (simp; omega)) ?_
  refine hK _ ?_
  clear hK K
  refine Walk.condF rfl (Walk.skip (Walk.seq (Walk.region' rfl fun K hK => ?_)))
  obtain ⟨k4, hx⟩ := chk_elim hx
  simp only [go_sem, seval, k3, k4]
  repeat refine And.intro (by first | omega | (simp; done) | (simp; omega)) ?_
  refine hK _ ?_
  clear hK K
  refine Walk.weaken ⟨[(2, .arr 5 0 (([] ++ v1).length))], [(5, some (.arr 3 1 (List.map iD ([] ++ v1))))]⟩ (by simp [k3, k4] <;> omega) (by simp [k3, k4] <;> omega) ?_
  refine Walk.weaken ⟨[(2, .arr 5 0 (([] ++ v1).length))], [(5, some (.arr 3 1 (List.map iD ([] ++ v1))))]⟩ (by simp [k3, k4] <;> omega) (by simp [k3, k4] <;> omega) ?_
  refine Walk.rename 5 2000 (by omega) (by omega) (by simp) (by simp) ?_
  simp only [renE, renL, AV.ren, AV.rens, AObj.ren, swp, Option.map_some, reduceIte, Nat.reduceEqDiff]
  obtain rfl := Option.some.inj hx
  exact Walk.ret ⟨by simp [k3, k4], by simp [k3, k4]⟩
noncomputable def optimality_States_l1 (v194 : Node) (v157 : Int) (v3 : List Node) (v211 : Int) (v212 : List Bool) (v213 : List (List Int)) : Option ((Int × List Bool × List (List Int)) ⊕ ((Int × List Bool × List (List Int)) ⊕ (List (List Int) × Int))) :=
  bif decide (v211 < 2) then ((rd [v194.Zero, v194.One] v211).bind fun v221 => bif decide (v221 ≤ v157) then (exitO (exitO (some (([], 29) : List (List Int) × Int)))) else (bif decide (v221 ≥ (v3.length : Int)) then (exitO (exitO (some (([], 29) : List (List Int) × Int)))) else ((rd v212 v221).bind fun v223 => bif v223 then (exitO (exitO (some (([], 29) : List (List Int) × Int)))) else ((rd v213 v157).bind fun v224 => (slices_Clone_int v224).bind fun v225 => (rd v213 v221).bind fun v226 => (rd v225 v194.Var).bind fun v227 => contO ((IntKind.i64.wrap (v211 + 1), (v212.set (v221).toNat true), (v213.set (v221).toNat ((v225.set (v194.Var).toNat v211)))) : Int × List Bool × List (List Int)))))) else (exitO (contO ((IntKind.i64.wrap (v157 + 1), v212, v213) : Int × List Bool × List (List Int))))
noncomputable def optimality_States_l0 (v3 : List Node) (v1 : List Int) (v2 : List Row) (v157 : Int) (v158 : List Bool) (v159 : List (List Int)) : Option ((Int × List Bool × List (List Int)) ⊕ (List (List Int) × Int)) :=
  bif decide (v157 < (v3.length : Int)) then ((rd v3 v157).bind fun v194 => (rd v158 v157).bind fun v196 => bif !v196 then (exitO (some (([], 29) : List (List Int) × Int))) else (bif decide (¬ v194.Kind = 1) then ((optimality_formed v1 v2 v194.Kind v194.Var v194.Zero v194.One v194.Row v194.Num v194.Den).bind fun v201 => bif !v201 then (exitO (some (([], 29) : List (List Int) × Int))) else (contO ((IntKind.i64.wrap (v157 + 1), v158, v159) : Int × List Bool × List (List Int)))) else (bif decide (v194.Var < 0) then (exitO (some (([], 29) : List (List Int) × Int))) else (bif decide (v194.Var ≥ (v1.length : Int)) then (exitO (some (([], 29) : List (List Int) × Int))) else ((rd v159 v157).bind fun v204 => (rd v204 v194.Var).bind fun v205 => bif decide (¬ v205 = (-1)) then (exitO (some (([], 29) : List (List Int) × Int))) else (iter (fun g : Int × List Bool × List (List Int) => optimality_States_l1 v194 v157 v3 g.1 g.2.1 g.2.2) (0, v158, v159))))))) else (exitO (some ((v159, 0) : List (List Int) × Int)))
noncomputable def optimality_States (v1 : List Int) (v2 : List Row) (v3 : List Node) : Option (List (List Int) × Int) :=
  (blueprint_Valid v1 v2).bind fun v119 => bif !v119 then (some (([], 1) : List (List Int) × Int)) else (bif decide ((v3.length : Int) > 8191) then (some (([], 3) : List (List Int) × Int)) else (bif decide ((v3.length : Int) = 0) then (some (([], 29) : List (List Int) × Int)) else (chk ((0 : Int) ≤ (v3.length : Int) ∧ (v3.length : Int) = (v3.length : Int) ∧ 24 * (v3.length : Int) ≤ 281474976710656 ∧ (v3.length : Int) ≤ 281474976710656) (chk ((0 : Int) ≤ (v3.length : Int) ∧ (v3.length : Int) = (v3.length : Int) ∧ 1 * (v3.length : Int) ≤ 281474976710656 ∧ (v3.length : Int) ≤ 281474976710656) ((slices_Repeat_int [-1] (v1.length : Int)).bind fun v120 => (rd ((List.replicate v3.length ([] : List Int))) 0).bind fun v121 => (rd (List.replicate v3.length false) 0).bind fun v122 => iter (fun g : Int × List Bool × List (List Int) => optimality_States_l0 v3 v1 v2 g.1 g.2.1 g.2.2) (0, ((List.replicate v3.length false).set 0 true), (((List.replicate v3.length ([] : List Int))).set 0 v120)))))))
theorem optimality_States_ok (v1 : List Int) (v2 : List Row) (v3 : List Node) (r : List (List Int) × Int) (hx : optimality_States v1 v2 v3 = some r) :
    ACalls Try.prog 22 [.agg [.d (.sl (List.map iD v1)), .d (.sl (List.map Row.D v2))], .d (.sl (List.map Node.D v3))] [] (.tup [.d (.sl (List.map (lD iD) r.1)), .d (.int .i64 r.2)]) [] := by
  refine ACalls.of_sem (n := 126) 100000 [4, 5] (fn := Try.f22) Try.func22 rfl rfl (.two rfl) rfl (by simp) (by intro i; simp only [hget]; (repeat' split) <;> simp <;> omega) ?_
  unfold optimality_States at hx
  refine Walk.seq (Walk.region' rfl fun K hK => ?_)
  simp only [go_sem, seval]
  refine hK _ ?_
  clear hK K
  refine Walk.seq (Walk.block (Walk.seq (Walk.region' rfl fun K hK => ?_)))
  obtain ⟨v119, h699, hx⟩ := bind_elim hx
  simp only [go_sem, seval]
  refine VCl.pure rfl (by simp only [go_sem, seval]; try simp) (blueprint_Valid_ok v1 v2 _ h699) (by simp only [go_sem, seval]; try simp) (by simp only [go_sem, seval]; try simp) (by simp only [go_sem, seval]; try simp) (by simp only [go_sem, seval]; try simp) (by simp only [go_sem, seval]; try simp) (by simp only [go_sem, seval]; try simp) ?_
  simp only [go_sem, seval]
  refine hK _ ?_
  clear hK K
  refine Walk.condO rfl hx (fun c703 hx => ?_) (fun c703 hx => ?_)
  · refine Walk.seq (Walk.region' rfl fun K hK => ?_)
    simp only [go_sem, seval, c703]
    refine hK _ ?_
    clear hK K
    refine Walk.weaken ⟨[(4, .nils), (5, .d (.int .i64 1))], []⟩ (by simp [c703] <;> omega) (by simp [c703] <;> omega) ?_
    refine Walk.nil2d [(4, .d (.sl (List.map (lD iD) []))), (5, .d (.int .i64 1))] [] (by simp) (by simp) ?_
    obtain rfl := Option.some.inj hx
    exact Walk.ret ⟨by simp [c703], by simp [c703]⟩
  refine Walk.seq (Walk.region' rfl fun K hK => ?_)
  simp only [go_sem, seval, c703]
  refine hK _ ?_
  clear hK K
  refine Walk.condO rfl hx (fun c708 hx => ?_) (fun c708 hx => ?_)
  · refine Walk.seq (Walk.region' rfl fun K hK => ?_)
    simp only [go_sem, seval, c703, c708]
    refine hK _ ?_
    clear hK K
    refine Walk.weaken ⟨[(4, .nils), (5, .d (.int .i64 3))], []⟩ (by simp [c703, c708] <;> omega) (by simp [c703, c708] <;> omega) ?_
    refine Walk.nil2d [(4, .d (.sl (List.map (lD iD) []))), (5, .d (.int .i64 3))] [] (by simp) (by simp) ?_
    obtain rfl := Option.some.inj hx
    exact Walk.ret ⟨by simp [c703, c708], by simp [c703, c708]⟩
  refine Walk.seq (Walk.region' rfl fun K hK => ?_)
  simp only [go_sem, seval, c703, c708]
  refine hK _ ?_
  clear hK K
  refine Walk.condO rfl hx (fun c711 hx => ?_) (fun c711 hx => ?_)
  · refine Walk.seq (Walk.region' rfl fun K hK => ?_)
    simp only [go_sem, seval, c703, c708, c711]
    refine hK _ ?_
    clear hK K
    refine Walk.weaken ⟨[(4, .nils), (5, .d (.int .i64 29))], []⟩ (by simp [c703, c708, c711] <;> omega) (by simp [c703, c708, c711] <;> omega) ?_
    refine Walk.nil2d [(4, .d (.sl (List.map (lD iD) []))), (5, .d (.int .i64 29))] [] (by simp) (by simp) ?_
    obtain rfl := Option.some.inj hx
    exact Walk.ret ⟨by simp [c703, c708, c711], by simp [c703, c708, c711]⟩
  refine Walk.skip (Walk.inBlock (Walk.seq (Walk.drawn' rfl mixed fun K hK => ?_)))
  obtain ⟨k712, hx⟩ := chk_elim hx
  obtain ⟨k713, hx⟩ := chk_elim hx
  simp only [go_sem, seval, c703, c708, c711, k712, k713]
  repeat refine And.intro (by first | omega | (simp; done) | (simp; omega)) ?_
  refine hK _ _ (by kernel_rfl) (by simp [c703, c708, c711, k712, k713]) ?_
  clear hK K
  refine Walk.weaken ⟨[(1, .d (.sl (List.map Node.D v3))), (2, .box 100002 0), (6, .arr 100026 0 (((List.replicate v3.length ([] : List Int))).length)), (7, .arr 100029 0 ((List.replicate v3.length false).length))], [(100002, some (.box [.d (.sl (List.map iD v1)), .d (.sl (List.map Row.D v2))])), (100026, some (.box (List.map (sA iD) ((List.replicate v3.length ([] : List Int)))))), (100029, some (.box (List.map bA (List.replicate v3.length false))))]⟩ (by simp [c703, c708, c711, k712, k713] <;> omega) (by simp [c703, c708, c711, k712, k713] <;> omega) ?_
  refine Walk.seq (Walk.region' rfl fun K hK => ?_)
  obtain ⟨v120, h714, hx⟩ := bind_elim hx
  simp only [go_sem, seval, c703, c708, c711, k712, k713]
  refine VCl.sub [] [100032] rfl (by simp only [go_sem, seval, AV.viewXs, AV.viewX, avD, c703, c708, c711, k712, k713]; try simp) (slices_Repeat_int_ok [-1] (v1.length : Int) _ h714) (by simp [c703, c708, c711, k712, k713]) (by simp [c703, c708, c711, k712, k713]) (by simp [c703, c708, c711, k712, k713]) (by simp [c703, c708, c711, k712, k713]) (by simp [c703, c708, c711, k712, k713]) (by simp [c703, c708, c711, k712, k713]) (by simp [c703, c708, c711, k712, k713]) (by simp [c703, c708, c711, k712, k713]) (by simp [c703, c708, c711, k712, k713]) (by simp [c703, c708, c711, k712, k713]) ?_
  obtain ⟨v121, r715, a716, b717, c718, q719, d720, e721, hx⟩ := rdA_elim hx
  have q722 := q719
  try simp only [List.length_replicate, List.length_set] at q722
  have q723 := b717
  try simp only [List.length_replicate, List.length_set] at q723
  have q724 := q719
  try simp only [List.length_replicate, List.length_set, Int.reduceToNat] at q724
  obtain ⟨v122, r725, a726, b727, c728, q729, d730, e731, hx⟩ := rdA_elim hx
  have q732 := q729
  try simp only [List.length_replicate, List.length_set] at q732
  have q733 := b727
  try simp only [List.length_replicate, List.length_set] at q733
  have q734 := q729
  try simp only [List.length_replicate, List.length_set, Int.reduceToNat] at q734
  simp only [go_sem, seval, c703, c708, c711, k712, k713, a716, b717, c718, q719, d720, e721, q722, q723, q724, a726, b727, c728, q729, d730, e731, q732, q733, q734]
  repeat refine And.intro (by first | omega | (simp; done) | (simp; omega)) ?_
  refine hK _ ?_
  clear hK K
  refine Walk.weaken ⟨[(1, .d (.sl (List.map Node.D v3))), (2, .box 100002 0), (6, .arr 100026 0 (((((List.replicate v3.length ([] : List Int))).set 0 v120)).length)), (7, .arr 100029 0 ((((List.replicate v3.length false).set 0 true)).length))], [(100002, some (.box [.d (.sl (List.map iD v1)), .d (.sl (List.map Row.D v2))])), (100026, some (.box (List.map (sA iD) ((((List.replicate v3.length ([] : List Int))).set 0 v120))))), (100029, some (.box (List.map bA (((List.replicate v3.length false).set 0 true)))))]⟩ (by simp [c703, c708, c711, k712, k713, a716, b717, c718, q719, d720, e721, q722, q723, q724, a726, b727, c728, q729, d730, e731, q732, q733, q734] <;> omega) (by simp [c703, c708, c711, k712, k713, a716, b717, c718, q719, d720, e721, q722, q723, q724, a726, b727, c728, q729, d730, e731, q732, q733, q734] <;> omega) ?_
  refine Walk.seq (Walk.seq (Walk.region' rfl fun K hK => ?_))
  simp only [go_sem, seval, c703, c708, c711, k712, k713, a716, b717, c718, q719, d720, e721, q722, q723, q724, a726, b727, c728, q729, d730, e731, q732, q733, q734]
  refine hK _ ?_
  clear hK K
  refine Walk.block (Walk.loop ?_)
  refine Walk.weaken ⟨[(1, .d (.sl (List.map Node.D v3))), (2, .box 100002 0), (6, .arr 100026 0 (((((List.replicate v3.length ([] : List Int))).set 0 v120)).length)), (7, .arr 100029 0 ((((List.replicate v3.length false).set 0 true)).length)), (39, .d (.sl (List.map Node.D v3))), (40, .d (.int .i64 (v3.length : Int))), (41, .d (.int .i64 0))], [(100002, some (.box [.d (.sl (List.map iD v1)), .d (.sl (List.map Row.D v2))])), (100026, some (.box (List.map (sA iD) ((((List.replicate v3.length ([] : List Int))).set 0 v120))))), (100029, some (.box (List.map bA (((List.replicate v3.length false).set 0 true)))))]⟩ (by simp [c703, c708, c711, k712, k713, a716, b717, c718, q719, d720, e721, q722, q723, q724, a726, b727, c728, q729, d730, e731, q732, q733, q734] <;> omega) (by simp [c703, c708, c711, k712, k713, a716, b717, c718, q719, d720, e721, q722, q723, q724, a726, b727, c728, q729, d730, e731, q732, q733, q734] <;> omega) ?_
  refine Walk.iter (σ := Int × List Bool × List (List Int)) (fun g => ⟨[(1, .d (.sl (List.map Node.D v3))), (2, .box 100002 0), (6, .arr 100026 0 g.2.2.length), (7, .arr 100029 0 g.2.1.length), (39, .d (.sl (List.map Node.D v3))), (40, .d (.int .i64 (v3.length : Int))), (41, .d (.int .i64 g.1))], [(100002, some (.box [.d (.sl (List.map iD v1)), .d (.sl (List.map Row.D v2))])), (100026, some (.box (List.map (sA iD) g.2.2))), (100029, some (.box (List.map bA g.2.1)))]⟩) (fun g : Int × List Bool × List (List Int) => optimality_States_l0 v3 v1 v2 g.1 g.2.1 g.2.2) _ (fun g y1404 hx ih1169 hr1170 => ?_) (0, ((List.replicate v3.length false).set 0 true), (((List.replicate v3.length ([] : List Int))).set 0 v120)) hx
  obtain ⟨v157, v158, v159⟩ := g
  unfold optimality_States_l0 at hx
  try dsimp only at hx ⊢
  refine Walk.seq (Walk.region' rfl fun K hK => ?_)
  simp only [go_sem, seval, c703, c708, c711, k712, k713, a716, b717, c718, q719, d720, e721, q722, q723, q724, a726, b727, c728, q729, d730, e731, q732, q733, q734]
  refine hK _ ?_
  clear hK K
  refine Walk.seq (Walk.condO rfl hx (fun c1172 hx => ?_) (fun c1172 hx => ?_))
  · refine Walk.skip (Walk.seq (Walk.block (Walk.seq (Walk.region' rfl fun K hK => ?_))))
    obtain ⟨v194, r1173, a1174, b1175, c1176, hx⟩ := rd_elim hx
    simp only [go_sem, seval, c703, c708, c711, k712, k713, a716, b717, c718, q719, d720, e721, q722, q723, q724, a726, b727, c728, q729, d730, e731, q732, q733, q734, c1172, a1174, b1175, c1176]
    repeat refine And.intro (by first | omega | (simp; done) | (simp; omega)) ?_
    refine hK _ ?_
    clear hK K
    refine Walk.seq (Walk.seq (Walk.region' rfl fun K hK => ?_))
    obtain ⟨v196, r1185, a1186, b1187, c1188, q1189, d1190, e1191, hx⟩ := rdA_elim hx
    simp only [go_sem, seval, c703, c708, c711, k712, k713, a716, b717, c718, q719, d720, e721, q722, q723, q724, a726, b727, c728, q729, d730, e731, q732, q733, q734, c1172, a1174, b1175, c1176, a1186, b1187, c1188, q1189, d1190, e1191]
    repeat refine And.intro (by first | omega | (simp; done) | (simp; omega)) ?_
    refine hK _ ?_
    clear hK K
    refine Walk.condO rfl hx (fun c1193 hx => ?_) (fun c1193 hx => ?_)
    · refine Walk.seq (Walk.region' rfl fun K hK => ?_)
      simp only [go_sem, seval, c703, c708, c711, k712, k713, a716, b717, c718, q719, d720, e721, q722, q723, q724, a726, b727, c728, q729, d730, e731, q732, q733, q734, c1172, a1174, b1175, c1176, a1186, b1187, c1188, q1189, d1190, e1191, c1193]
      refine hK _ ?_
      clear hK K
      obtain ⟨z1194, e1195, hx⟩ := exit_elim hx
      rw [hr1170 z1194 e1195] at hx
      refine Walk.weaken ⟨[(4, .nils), (5, .d (.int .i64 29))], []⟩ (by simp [c703, c708, c711, k712, k713, a716, b717, c718, q719, d720, e721, q722, q723, q724, a726, b727, c728, q729, d730, e731, q732, q733, q734, c1172, a1174, b1175, c1176, a1186, b1187, c1188, q1189, d1190, e1191, c1193] <;> omega) (by simp [c703, c708, c711, k712, k713, a716, b717, c718, q719, d720, e721, q722, q723, q724, a726, b727, c728, q729, d730, e731, q732, q733, q734, c1172, a1174, b1175, c1176, a1186, b1187, c1188, q1189, d1190, e1191, c1193] <;> omega) ?_
      refine Walk.nil2d [(4, .d (.sl (List.map (lD iD) []))), (5, .d (.int .i64 29))] [] (by simp) (by simp) ?_
      obtain rfl := Option.some.inj hx
      exact Walk.ret ⟨by simp [c703, c708, c711, k712, k713, a716, b717, c718, q719, d720, e721, q722, q723, q724, a726, b727, c728, q729, d730, e731, q732, q733, q734, c1172, a1174, b1175, c1176, a1186, b1187, c1188, q1189, d1190, e1191, c1193], by simp [c703, c708, c711, k712, k713, a716, b717, c718, q719, d720, e721, q722, q723, q724, a726, b727, c728, q729, d730, e731, q732, q733, q734, c1172, a1174, b1175, c1176, a1186, b1187, c1188, q1189, d1190, e1191, c1193]⟩
    refine Walk.skip (Walk.seq (Walk.seq (Walk.region' rfl fun K hK => ?_)))
    simp only [go_sem, seval, c703, c708, c711, k712, k713, a716, b717, c718, q719, d720, e721, q722, q723, q724, a726, b727, c728, q729, d730, e731, q732, q733, q734, c1172, a1174, b1175, c1176, a1186, b1187, c1188, q1189, d1190, e1191, c1193]
    refine hK _ ?_
    clear hK K
    refine Walk.condO rfl hx (fun c1202 hx => ?_) (fun c1202 hx => ?_)
    · refine Walk.seq (Walk.seq (Walk.region' rfl fun K hK => ?_))
      obtain ⟨v201, h1207, hx⟩ := bind_elim hx
      simp only [go_sem, seval, c703, c708, c711, k712, k713, a716, b717, c718, q719, d720, e721, q722, q723, q724, a726, b727, c728, q729, d730, e731, q732, q733, q734, c1172, a1174, b1175, c1176, a1186, b1187, c1188, q1189, d1190, e1191, c1193, c1202]
      refine VCl.pure rfl (by simp only [go_sem, seval, c703, c708, c711, k712, k713, a716, b717, c718, q719, d720, e721, q722, q723, q724, a726, b727, c728, q729, d730, e731, q732, q733, q734, c1172, a1174, b1175, c1176, a1186, b1187, c1188, q1189, d1190, e1191, c1193, c1202]; try simp) (optimality_formed_ok v1 v2 v194.Kind v194.Var v194.Zero v194.One v194.Row v194.Num v194.Den _ h1207) (by simp only [go_sem, seval, c703, c708, c711, k712, k713, a716, b717, c718, q719, d720, e721, q722, q723, q724, a726, b727, c728, q729, d730, e731, q732, q733, q734, c1172, a1174, b1175, c1176, a1186, b1187, c1188, q1189, d1190, e1191, c1193, c1202]; try simp) (by simp only [go_sem, seval, c703, c708, c711, k712, k713, a716, b717, c718, q719, d720, e721, q722, q723, q724, a726, b727, c728, q729, d730, e731, q732, q733, q734, c1172, a1174, b1175, c1176, a1186, b1187, c1188, q1189, d1190, e1191, c1193, c1202]; try simp) (by simp only [go_sem, seval, c703, c708, c711, k712, k713, a716, b717, c718, q719, d720, e721, q722, q723, q724, a726, b727, c728, q729, d730, e731, q732, q733, q734, c1172, a1174, b1175, c1176, a1186, b1187, c1188, q1189, d1190, e1191, c1193, c1202]; try simp) (by simp only [go_sem, seval, c703, c708, c711, k712, k713, a716, b717, c718, q719, d720, e721, q722, q723, q724, a726, b727, c728, q729, d730, e731, q732, q733, q734, c1172, a1174, b1175, c1176, a1186, b1187, c1188, q1189, d1190, e1191, c1193, c1202]; try simp) (by simp only [go_sem, seval, c703, c708, c711, k712, k713, a716, b717, c718, q719, d720, e721, q722, q723, q724, a726, b727, c728, q729, d730, e731, q732, q733, q734, c1172, a1174, b1175, c1176, a1186, b1187, c1188, q1189, d1190, e1191, c1193, c1202]; try simp) (by simp only [go_sem, seval, c703, c708, c711, k712, k713, a716, b717, c718, q719, d720, e721, q722, q723, q724, a726, b727, c728, q729, d730, e731, q732, q733, q734, c1172, a1174, b1175, c1176, a1186, b1187, c1188, q1189, d1190, e1191, c1193, c1202]; try simp) ?_
      simp only [go_sem, seval, c703, c708, c711, k712, k713, a716, b717, c718, q719, d720, e721, q722, q723, q724, a726, b727, c728, q729, d730, e731, q732, q733, q734, c1172, a1174, b1175, c1176, a1186, b1187, c1188, q1189, d1190, e1191, c1193, c1202]
      refine hK _ ?_
      clear hK K
      refine Walk.condO rfl hx (fun c1209 hx => ?_) (fun c1209 hx => ?_)
      · refine Walk.seq (Walk.region' rfl fun K hK => ?_)
        simp only [go_sem, seval, c703, c708, c711, k712, k713, a716, b717, c718, q719, d720, e721, q722, q723, q724, a726, b727, c728, q729, d730, e731, q732, q733, q734, c1172, a1174, b1175, c1176, a1186, b1187, c1188, q1189, d1190, e1191, c1193, c1202, c1209]
        refine hK _ ?_
        clear hK K
        obtain ⟨z1210, e1211, hx⟩ := exit_elim hx
        rw [hr1170 z1210 e1211] at hx
        refine Walk.weaken ⟨[(4, .nils), (5, .d (.int .i64 29))], []⟩ (by simp [c703, c708, c711, k712, k713, a716, b717, c718, q719, d720, e721, q722, q723, q724, a726, b727, c728, q729, d730, e731, q732, q733, q734, c1172, a1174, b1175, c1176, a1186, b1187, c1188, q1189, d1190, e1191, c1193, c1202, c1209] <;> omega) (by simp [c703, c708, c711, k712, k713, a716, b717, c718, q719, d720, e721, q722, q723, q724, a726, b727, c728, q729, d730, e731, q732, q733, q734, c1172, a1174, b1175, c1176, a1186, b1187, c1188, q1189, d1190, e1191, c1193, c1202, c1209] <;> omega) ?_
        refine Walk.nil2d [(4, .d (.sl (List.map (lD iD) []))), (5, .d (.int .i64 29))] [] (by simp) (by simp) ?_
        obtain rfl := Option.some.inj hx
        exact Walk.ret ⟨by simp [c703, c708, c711, k712, k713, a716, b717, c718, q719, d720, e721, q722, q723, q724, a726, b727, c728, q729, d730, e731, q732, q733, q734, c1172, a1174, b1175, c1176, a1186, b1187, c1188, q1189, d1190, e1191, c1193, c1202, c1209], by simp [c703, c708, c711, k712, k713, a716, b717, c718, q719, d720, e721, q722, q723, q724, a726, b727, c728, q729, d730, e731, q732, q733, q734, c1172, a1174, b1175, c1176, a1186, b1187, c1188, q1189, d1190, e1191, c1193, c1202, c1209]⟩
      refine Walk.skip (Walk.exit rfl (Walk.region' rfl fun K hK => ?_))
      simp only [go_sem, seval, c703, c708, c711, k712, k713, a716, b717, c718, q719, d720, e721, q722, q723, q724, a726, b727, c728, q729, d730, e731, q732, q733, q734, c1172, a1174, b1175, c1176, a1186, b1187, c1188, q1189, d1190, e1191, c1193, c1202, c1209]
      refine hK _ ?_
      clear hK K
      exact Walk.weaken _ (by simp [c703, c708, c711, k712, k713, a716, b717, c718, q719, d720, e721, q722, q723, q724, a726, b727, c728, q729, d730, e731, q732, q733, q734, c1172, a1174, b1175, c1176, a1186, b1187, c1188, q1189, d1190, e1191, c1193, c1202, c1209] <;> omega) (by simp [c703, c708, c711, k712, k713, a716, b717, c718, q719, d720, e721, q722, q723, q724, a726, b727, c728, q729, d730, e731, q732, q733, q734, c1172, a1174, b1175, c1176, a1186, b1187, c1188, q1189, d1190, e1191, c1193, c1202, c1209] <;> omega) (ih1169 _ (cont_elim hx))
    refine Walk.skip (Walk.seq (Walk.seq (Walk.drawn' rfl mixed fun K hK => ?_)))
    simp only [go_sem, seval, c703, c708, c711, k712, k713, a716, b717, c718, q719, d720, e721, q722, q723, q724, a726, b727, c728, q729, d730, e731, q732, q733, q734, c1172, a1174, b1175, c1176, a1186, b1187, c1188, q1189, d1190, e1191, c1193, c1202]
    refine VGdO hx (fun g1226 hx => ?_) (fun g1226 hx => ?_)
    · simp only [go_sem, seval, c703, c708, c711, k712, k713, a716, b717, c718, q719, d720, e721, q722, q723, q724, a726, b727, c728, q729, d730, e731, q732, q733, q734, c1172, a1174, b1175, c1176, a1186, b1187, c1188, q1189, d1190, e1191, c1193, c1202, g1226]
      refine hK _ _ (by kernel_rfl) (by simp [c703, c708, c711, k712, k713, a716, b717, c718, q719, d720, e721, q722, q723, q724, a726, b727, c728, q729, d730, e731, q732, q733, q734, c1172, a1174, b1175, c1176, a1186, b1187, c1188, q1189, d1190, e1191, c1193, c1202, g1226]) ?_
      clear hK K
      refine Walk.condT rfl (Walk.seq (Walk.region' rfl fun K hK => ?_))
      simp only [go_sem, seval, c703, c708, c711, k712, k713, a716, b717, c718, q719, d720, e721, q722, q723, q724, a726, b727, c728, q729, d730, e731, q732, q733, q734, c1172, a1174, b1175, c1176, a1186, b1187, c1188, q1189, d1190, e1191, c1193, c1202, g1226]
      refine hK _ ?_
      clear hK K
      obtain ⟨z1227, e1228, hx⟩ := exit_elim hx
      rw [hr1170 z1227 e1228] at hx
      refine Walk.weaken ⟨[(4, .nils), (5, .d (.int .i64 29))], []⟩ (by simp [c703, c708, c711, k712, k713, a716, b717, c718, q719, d720, e721, q722, q723, q724, a726, b727, c728, q729, d730, e731, q732, q733, q734, c1172, a1174, b1175, c1176, a1186, b1187, c1188, q1189, d1190, e1191, c1193, c1202, g1226] <;> omega) (by simp [c703, c708, c711, k712, k713, a716, b717, c718, q719, d720, e721, q722, q723, q724, a726, b727, c728, q729, d730, e731, q732, q733, q734, c1172, a1174, b1175, c1176, a1186, b1187, c1188, q1189, d1190, e1191, c1193, c1202, g1226] <;> omega) ?_
      refine Walk.nil2d [(4, .d (.sl (List.map (lD iD) []))), (5, .d (.int .i64 29))] [] (by simp) (by simp) ?_
      obtain rfl := Option.some.inj hx
      exact Walk.ret ⟨by simp [c703, c708, c711, k712, k713, a716, b717, c718, q719, d720, e721, q722, q723, q724, a726, b727, c728, q729, d730, e731, q732, q733, q734, c1172, a1174, b1175, c1176, a1186, b1187, c1188, q1189, d1190, e1191, c1193, c1202, g1226], by simp [c703, c708, c711, k712, k713, a716, b717, c718, q719, d720, e721, q722, q723, q724, a726, b727, c728, q729, d730, e731, q732, q733, q734, c1172, a1174, b1175, c1176, a1186, b1187, c1188, q1189, d1190, e1191, c1193, c1202, g1226]⟩
    simp only [go_sem, seval, c703, c708, c711, k712, k713, a716, b717, c718, q719, d720, e721, q722, q723, q724, a726, b727, c728, q729, d730, e731, q732, q733, q734, c1172, a1174, b1175, c1176, a1186, b1187, c1188, q1189, d1190, e1191, c1193, c1202, g1226]
    refine VGdO hx (fun g1229 hx => ?_) (fun g1229 hx => ?_)
    · simp only [go_sem, seval, c703, c708, c711, k712, k713, a716, b717, c718, q719, d720, e721, q722, q723, q724, a726, b727, c728, q729, d730, e731, q732, q733, q734, c1172, a1174, b1175, c1176, a1186, b1187, c1188, q1189, d1190, e1191, c1193, c1202, g1226, g1229]
      refine hK _ _ (by kernel_rfl) (by simp [c703, c708, c711, k712, k713, a716, b717, c718, q719, d720, e721, q722, q723, q724, a726, b727, c728, q729, d730, e731, q732, q733, q734, c1172, a1174, b1175, c1176, a1186, b1187, c1188, q1189, d1190, e1191, c1193, c1202, g1226, g1229]) ?_
      clear hK K
      refine Walk.condT rfl (Walk.seq (Walk.region' rfl fun K hK => ?_))
      simp only [go_sem, seval, c703, c708, c711, k712, k713, a716, b717, c718, q719, d720, e721, q722, q723, q724, a726, b727, c728, q729, d730, e731, q732, q733, q734, c1172, a1174, b1175, c1176, a1186, b1187, c1188, q1189, d1190, e1191, c1193, c1202, g1226, g1229]
      refine hK _ ?_
      clear hK K
      obtain ⟨z1230, e1231, hx⟩ := exit_elim hx
      rw [hr1170 z1230 e1231] at hx
      refine Walk.weaken ⟨[(4, .nils), (5, .d (.int .i64 29))], []⟩ (by simp [c703, c708, c711, k712, k713, a716, b717, c718, q719, d720, e721, q722, q723, q724, a726, b727, c728, q729, d730, e731, q732, q733, q734, c1172, a1174, b1175, c1176, a1186, b1187, c1188, q1189, d1190, e1191, c1193, c1202, g1226, g1229] <;> omega) (by simp [c703, c708, c711, k712, k713, a716, b717, c718, q719, d720, e721, q722, q723, q724, a726, b727, c728, q729, d730, e731, q732, q733, q734, c1172, a1174, b1175, c1176, a1186, b1187, c1188, q1189, d1190, e1191, c1193, c1202, g1226, g1229] <;> omega) ?_
      refine Walk.nil2d [(4, .d (.sl (List.map (lD iD) []))), (5, .d (.int .i64 29))] [] (by simp) (by simp) ?_
      obtain rfl := Option.some.inj hx
      exact Walk.ret ⟨by simp [c703, c708, c711, k712, k713, a716, b717, c718, q719, d720, e721, q722, q723, q724, a726, b727, c728, q729, d730, e731, q732, q733, q734, c1172, a1174, b1175, c1176, a1186, b1187, c1188, q1189, d1190, e1191, c1193, c1202, g1226, g1229], by simp [c703, c708, c711, k712, k713, a716, b717, c718, q719, d720, e721, q722, q723, q724, a726, b727, c728, q729, d730, e731, q732, q733, q734, c1172, a1174, b1175, c1176, a1186, b1187, c1188, q1189, d1190, e1191, c1193, c1202, g1226, g1229]⟩
    obtain ⟨v204, r1232, a1233, b1234, c1235, q1236, d1237, e1238, hx⟩ := rdA_elim hx
    obtain ⟨v205, r1239, a1240, b1241, c1242, hx⟩ := rd_elim hx
    simp only [go_sem, seval, c703, c708, c711, k712, k713, a716, b717, c718, q719, d720, e721, q722, q723, q724, a726, b727, c728, q729, d730, e731, q732, q733, q734, c1172, a1174, b1175, c1176, a1186, b1187, c1188, q1189, d1190, e1191, c1193, c1202, g1226, g1229, a1233, b1234, c1235, q1236, d1237, e1238, a1240, b1241, c1242]
    repeat refine And.intro (by first | omega | (simp; done) | (simp; omega)) ?_
    refine hK _ _ (by kernel_rfl) (by simp [c703, c708, c711, k712, k713, a716, b717, c718, q719, d720, e721, q722, q723, q724, a726, b727, c728, q729, d730, e731, q732, q733, q734, c1172, a1174, b1175, c1176, a1186, b1187, c1188, q1189, d1190, e1191, c1193, c1202, g1226, g1229, a1233, b1234, c1235, q1236, d1237, e1238, a1240, b1241, c1242]) ?_
    clear hK K
    refine Walk.condO rfl hx (fun c1244 hx => ?_) (fun c1244 hx => ?_)
    · refine Walk.seq (Walk.region' rfl fun K hK => ?_)
      simp only [go_sem, seval, c703, c708, c711, k712, k713, a716, b717, c718, q719, d720, e721, q722, q723, q724, a726, b727, c728, q729, d730, e731, q732, q733, q734, c1172, a1174, b1175, c1176, a1186, b1187, c1188, q1189, d1190, e1191, c1193, c1202, g1226, g1229, a1233, b1234, c1235, q1236, d1237, e1238, a1240, b1241, c1242, c1244]
      refine hK _ ?_
      clear hK K
      obtain ⟨z1245, e1246, hx⟩ := exit_elim hx
      rw [hr1170 z1245 e1246] at hx
      refine Walk.weaken ⟨[(4, .nils), (5, .d (.int .i64 29))], []⟩ (by simp [c703, c708, c711, k712, k713, a716, b717, c718, q719, d720, e721, q722, q723, q724, a726, b727, c728, q729, d730, e731, q732, q733, q734, c1172, a1174, b1175, c1176, a1186, b1187, c1188, q1189, d1190, e1191, c1193, c1202, g1226, g1229, a1233, b1234, c1235, q1236, d1237, e1238, a1240, b1241, c1242, c1244] <;> omega) (by simp [c703, c708, c711, k712, k713, a716, b717, c718, q719, d720, e721, q722, q723, q724, a726, b727, c728, q729, d730, e731, q732, q733, q734, c1172, a1174, b1175, c1176, a1186, b1187, c1188, q1189, d1190, e1191, c1193, c1202, g1226, g1229, a1233, b1234, c1235, q1236, d1237, e1238, a1240, b1241, c1242, c1244] <;> omega) ?_
      refine Walk.nil2d [(4, .d (.sl (List.map (lD iD) []))), (5, .d (.int .i64 29))] [] (by simp) (by simp) ?_
      obtain rfl := Option.some.inj hx
      exact Walk.ret ⟨by simp [c703, c708, c711, k712, k713, a716, b717, c718, q719, d720, e721, q722, q723, q724, a726, b727, c728, q729, d730, e731, q732, q733, q734, c1172, a1174, b1175, c1176, a1186, b1187, c1188, q1189, d1190, e1191, c1193, c1202, g1226, g1229, a1233, b1234, c1235, q1236, d1237, e1238, a1240, b1241, c1242, c1244], by simp [c703, c708, c711, k712, k713, a716, b717, c718, q719, d720, e721, q722, q723, q724, a726, b727, c728, q729, d730, e731, q732, q733, q734, c1172, a1174, b1175, c1176, a1186, b1187, c1188, q1189, d1190, e1191, c1193, c1202, g1226, g1229, a1233, b1234, c1235, q1236, d1237, e1238, a1240, b1241, c1242, c1244]⟩
    refine Walk.skip (Walk.seq (Walk.region' rfl fun K hK => ?_))
    simp only [go_sem, seval, c703, c708, c711, k712, k713, a716, b717, c718, q719, d720, e721, q722, q723, q724, a726, b727, c728, q729, d730, e731, q732, q733, q734, c1172, a1174, b1175, c1176, a1186, b1187, c1188, q1189, d1190, e1191, c1193, c1202, g1226, g1229, a1233, b1234, c1235, q1236, d1237, e1238, a1240, b1241, c1242, c1244]
    refine hK _ ?_
    clear hK K
    refine Walk.block (Walk.loop ?_)
    refine Walk.weaken ⟨[(1, .d (.sl (List.map Node.D v3))), (2, .box 100002 0), (6, .arr 100026 0 v159.length), (7, .arr 100029 0 v158.length), (8, .d (.int .i64 v157)), (9, .box 100009 0), (39, .d (.sl (List.map Node.D v3))), (40, .d (.int .i64 (v3.length : Int))), (41, .d (.int .i64 v157)), (84, .agg [.d (.int .i64 v194.Zero), .d (.int .i64 v194.One)]), (85, .d (.int .i64 0))], [(100002, some (.box [.d (.sl (List.map iD v1)), .d (.sl (List.map Row.D v2))])), (100009, some (.box [.d (.int .i64 v194.Kind), .d (.int .i64 v194.Var), .d (.int .i64 v194.Zero), .d (.int .i64 v194.One), .d (.int .i64 v194.Row), .d (.int .i64 v194.Num), .d (.int .i64 v194.Den)])), (100026, some (.box (List.map (sA iD) v159))), (100029, some (.box (List.map bA v158)))]⟩ (by simp [c703, c708, c711, k712, k713, a716, b717, c718, q719, d720, e721, q722, q723, q724, a726, b727, c728, q729, d730, e731, q732, q733, q734, c1172, a1174, b1175, c1176, a1186, b1187, c1188, q1189, d1190, e1191, c1193, c1202, g1226, g1229, a1233, b1234, c1235, q1236, d1237, e1238, a1240, b1241, c1242, c1244] <;> omega) (by simp [c703, c708, c711, k712, k713, a716, b717, c718, q719, d720, e721, q722, q723, q724, a726, b727, c728, q729, d730, e731, q732, q733, q734, c1172, a1174, b1175, c1176, a1186, b1187, c1188, q1189, d1190, e1191, c1193, c1202, g1226, g1229, a1233, b1234, c1235, q1236, d1237, e1238, a1240, b1241, c1242, c1244] <;> omega) ?_
    refine Walk.iter (σ := Int × List Bool × List (List Int)) (fun g => ⟨[(1, .d (.sl (List.map Node.D v3))), (2, .box 100002 0), (6, .arr 100026 0 g.2.2.length), (7, .arr 100029 0 g.2.1.length), (8, .d (.int .i64 v157)), (9, .box 100009 0), (39, .d (.sl (List.map Node.D v3))), (40, .d (.int .i64 (v3.length : Int))), (41, .d (.int .i64 v157)), (84, .agg [.d (.int .i64 v194.Zero), .d (.int .i64 v194.One)]), (85, .d (.int .i64 g.1))], [(100002, some (.box [.d (.sl (List.map iD v1)), .d (.sl (List.map Row.D v2))])), (100009, some (.box [.d (.int .i64 v194.Kind), .d (.int .i64 v194.Var), .d (.int .i64 v194.Zero), .d (.int .i64 v194.One), .d (.int .i64 v194.Row), .d (.int .i64 v194.Num), .d (.int .i64 v194.Den)])), (100026, some (.box (List.map (sA iD) g.2.2))), (100029, some (.box (List.map bA g.2.1)))]⟩) (fun g : Int × List Bool × List (List Int) => optimality_States_l1 v194 v157 v3 g.1 g.2.1 g.2.2) _ (fun g y1401 hx ih1333 hr1334 => ?_) (0, v158, v159) hx
    obtain ⟨v211, v212, v213⟩ := g
    unfold optimality_States_l1 at hx
    try dsimp only at hx ⊢
    refine Walk.seq (Walk.region' rfl fun K hK => ?_)
    simp only [go_sem, seval, c703, c708, c711, k712, k713, a716, b717, c718, q719, d720, e721, q722, q723, q724, a726, b727, c728, q729, d730, e731, q732, q733, q734, c1172, a1174, b1175, c1176, a1186, b1187, c1188, q1189, d1190, e1191, c1193, c1202, g1226, g1229, a1233, b1234, c1235, q1236, d1237, e1238, a1240, b1241, c1242, c1244]
    refine hK _ ?_
    clear hK K
    refine Walk.seq (Walk.condO rfl hx (fun c1336 hx => ?_) (fun c1336 hx => ?_))
    · refine Walk.skip (Walk.seq (Walk.block (Walk.seq (Walk.region' rfl fun K hK => ?_))))
      obtain ⟨v221, r1337, a1338, b1339, c1340, q1341, d1342, e1343, hx⟩ := rdA_elim hx
      have q1344 := d1342 iA
      simp only [List.map_cons, List.map_nil, iA] at q1344
      simp only [List.length_cons, List.length_nil, Nat.zero_add, Nat.reduceAdd] at b1339
      simp only [go_sem, seval, c703, c708, c711, k712, k713, a716, b717, c718, q719, d720, e721, q722, q723, q724, a726, b727, c728, q729, d730, e731, q732, q733, q734, c1172, a1174, b1175, c1176, a1186, b1187, c1188, q1189, d1190, e1191, c1193, c1202, g1226, g1229, a1233, b1234, c1235, q1236, d1237, e1238, a1240, b1241, c1242, c1244, c1336, a1338, b1339, q1341, q1344]
      repeat refine And.intro (by first | omega | (simp; done) | (simp; omega)) ?_
      refine hK _ ?_
      clear hK K
      refine Walk.seq (Walk.seq (Walk.region' rfl fun K hK => ?_))
      simp only [go_sem, seval, c703, c708, c711, k712, k713, a716, b717, c718, q719, d720, e721, q722, q723, q724, a726, b727, c728, q729, d730, e731, q732, q733, q734, c1172, a1174, b1175, c1176, a1186, b1187, c1188, q1189, d1190, e1191, c1193, c1202, g1226, g1229, a1233, b1234, c1235, q1236, d1237, e1238, a1240, b1241, c1242, c1244, c1336, a1338, b1339, q1341, q1344]
      refine VGdO hx (fun g1356 hx => ?_) (fun g1356 hx => ?_)
      · simp only [go_sem, seval, c703, c708, c711, k712, k713, a716, b717, c718, q719, d720, e721, q722, q723, q724, a726, b727, c728, q729, d730, e731, q732, q733, q734, c1172, a1174, b1175, c1176, a1186, b1187, c1188, q1189, d1190, e1191, c1193, c1202, g1226, g1229, a1233, b1234, c1235, q1236, d1237, e1238, a1240, b1241, c1242, c1244, c1336, a1338, b1339, q1341, q1344, g1356]
        refine hK _ ?_
        clear hK K
        refine Walk.condT rfl (Walk.seq (Walk.region' rfl fun K hK => ?_))
        simp only [go_sem, seval, c703, c708, c711, k712, k713, a716, b717, c718, q719, d720, e721, q722, q723, q724, a726, b727, c728, q729, d730, e731, q732, q733, q734, c1172, a1174, b1175, c1176, a1186, b1187, c1188, q1189, d1190, e1191, c1193, c1202, g1226, g1229, a1233, b1234, c1235, q1236, d1237, e1238, a1240, b1241, c1242, c1244, c1336, a1338, b1339, q1341, q1344, g1356]
        refine hK _ ?_
        clear hK K
        obtain ⟨z1357, e1358, hx⟩ := exit_elim hx
        rw [hr1334 z1357 e1358] at hx
        obtain ⟨z1359, e1360, hx⟩ := exit_elim hx
        rw [hr1170 z1359 e1360] at hx
        refine Walk.weaken ⟨[(4, .nils), (5, .d (.int .i64 29))], []⟩ (by simp [c703, c708, c711, k712, k713, a716, b717, c718, q719, d720, e721, q722, q723, q724, a726, b727, c728, q729, d730, e731, q732, q733, q734, c1172, a1174, b1175, c1176, a1186, b1187, c1188, q1189, d1190, e1191, c1193, c1202, g1226, g1229, a1233, b1234, c1235, q1236, d1237, e1238, a1240, b1241, c1242, c1244, c1336, a1338, b1339, q1341, q1344, g1356] <;> omega) (by simp [c703, c708, c711, k712, k713, a716, b717, c718, q719, d720, e721, q722, q723, q724, a726, b727, c728, q729, d730, e731, q732, q733, q734, c1172, a1174, b1175, c1176, a1186, b1187, c1188, q1189, d1190, e1191, c1193, c1202, g1226, g1229, a1233, b1234, c1235, q1236, d1237, e1238, a1240, b1241, c1242, c1244, c1336, a1338, b1339, q1341, q1344, g1356] <;> omega) ?_
        refine Walk.nil2d [(4, .d (.sl (List.map (lD iD) []))), (5, .d (.int .i64 29))] [] (by simp) (by simp) ?_
        obtain rfl := Option.some.inj hx
        exact Walk.ret ⟨by simp [c703, c708, c711, k712, k713, a716, b717, c718, q719, d720, e721, q722, q723, q724, a726, b727, c728, q729, d730, e731, q732, q733, q734, c1172, a1174, b1175, c1176, a1186, b1187, c1188, q1189, d1190, e1191, c1193, c1202, g1226, g1229, a1233, b1234, c1235, q1236, d1237, e1238, a1240, b1241, c1242, c1244, c1336, a1338, b1339, q1341, q1344, g1356], by simp [c703, c708, c711, k712, k713, a716, b717, c718, q719, d720, e721, q722, q723, q724, a726, b727, c728, q729, d730, e731, q732, q733, q734, c1172, a1174, b1175, c1176, a1186, b1187, c1188, q1189, d1190, e1191, c1193, c1202, g1226, g1229, a1233, b1234, c1235, q1236, d1237, e1238, a1240, b1241, c1242, c1244, c1336, a1338, b1339, q1341, q1344, g1356]⟩
      simp only [go_sem, seval, c703, c708, c711, k712, k713, a716, b717, c718, q719, d720, e721, q722, q723, q724, a726, b727, c728, q729, d730, e731, q732, q733, q734, c1172, a1174, b1175, c1176, a1186, b1187, c1188, q1189, d1190, e1191, c1193, c1202, g1226, g1229, a1233, b1234, c1235, q1236, d1237, e1238, a1240, b1241, c1242, c1244, c1336, a1338, b1339, q1341, q1344, g1356]
      refine VGdO hx (fun g1361 hx => ?_) (fun g1361 hx => ?_)
      · simp only [go_sem, seval, c703, c708, c711, k712, k713, a716, b717, c718, q719, d720, e721, q722, q723, q724, a726, b727, c728, q729, d730, e731, q732, q733, q734, c1172, a1174, b1175, c1176, a1186, b1187, c1188, q1189, d1190, e1191, c1193, c1202, g1226, g1229, a1233, b1234, c1235, q1236, d1237, e1238, a1240, b1241, c1242, c1244, c1336, a1338, b1339, q1341, q1344, g1356, g1361]
        refine hK _ ?_
        clear hK K
        refine Walk.condT rfl (Walk.seq (Walk.region' rfl fun K hK => ?_))
        simp only [go_sem, seval, c703, c708, c711, k712, k713, a716, b717, c718, q719, d720, e721, q722, q723, q724, a726, b727, c728, q729, d730, e731, q732, q733, q734, c1172, a1174, b1175, c1176, a1186, b1187, c1188, q1189, d1190, e1191, c1193, c1202, g1226, g1229, a1233, b1234, c1235, q1236, d1237, e1238, a1240, b1241, c1242, c1244, c1336, a1338, b1339, q1341, q1344, g1356, g1361]
        refine hK _ ?_
        clear hK K
        obtain ⟨z1362, e1363, hx⟩ := exit_elim hx
        rw [hr1334 z1362 e1363] at hx
        obtain ⟨z1364, e1365, hx⟩ := exit_elim hx
        rw [hr1170 z1364 e1365] at hx
        refine Walk.weaken ⟨[(4, .nils), (5, .d (.int .i64 29))], []⟩ (by simp [c703, c708, c711, k712, k713, a716, b717, c718, q719, d720, e721, q722, q723, q724, a726, b727, c728, q729, d730, e731, q732, q733, q734, c1172, a1174, b1175, c1176, a1186, b1187, c1188, q1189, d1190, e1191, c1193, c1202, g1226, g1229, a1233, b1234, c1235, q1236, d1237, e1238, a1240, b1241, c1242, c1244, c1336, a1338, b1339, q1341, q1344, g1356, g1361] <;> omega) (by simp [c703, c708, c711, k712, k713, a716, b717, c718, q719, d720, e721, q722, q723, q724, a726, b727, c728, q729, d730, e731, q732, q733, q734, c1172, a1174, b1175, c1176, a1186, b1187, c1188, q1189, d1190, e1191, c1193, c1202, g1226, g1229, a1233, b1234, c1235, q1236, d1237, e1238, a1240, b1241, c1242, c1244, c1336, a1338, b1339, q1341, q1344, g1356, g1361] <;> omega) ?_
        refine Walk.nil2d [(4, .d (.sl (List.map (lD iD) []))), (5, .d (.int .i64 29))] [] (by simp) (by simp) ?_
        obtain rfl := Option.some.inj hx
        exact Walk.ret ⟨by simp [c703, c708, c711, k712, k713, a716, b717, c718, q719, d720, e721, q722, q723, q724, a726, b727, c728, q729, d730, e731, q732, q733, q734, c1172, a1174, b1175, c1176, a1186, b1187, c1188, q1189, d1190, e1191, c1193, c1202, g1226, g1229, a1233, b1234, c1235, q1236, d1237, e1238, a1240, b1241, c1242, c1244, c1336, a1338, b1339, q1341, q1344, g1356, g1361], by simp [c703, c708, c711, k712, k713, a716, b717, c718, q719, d720, e721, q722, q723, q724, a726, b727, c728, q729, d730, e731, q732, q733, q734, c1172, a1174, b1175, c1176, a1186, b1187, c1188, q1189, d1190, e1191, c1193, c1202, g1226, g1229, a1233, b1234, c1235, q1236, d1237, e1238, a1240, b1241, c1242, c1244, c1336, a1338, b1339, q1341, q1344, g1356, g1361]⟩
      obtain ⟨v223, r1366, a1367, b1368, c1369, q1370, d1371, e1372, hx⟩ := rdA_elim hx
      simp only [go_sem, seval, c703, c708, c711, k712, k713, a716, b717, c718, q719, d720, e721, q722, q723, q724, a726, b727, c728, q729, d730, e731, q732, q733, q734, c1172, a1174, b1175, c1176, a1186, b1187, c1188, q1189, d1190, e1191, c1193, c1202, g1226, g1229, a1233, b1234, c1235, q1236, d1237, e1238, a1240, b1241, c1242, c1244, c1336, a1338, b1339, q1341, q1344, g1356, g1361, a1367, b1368, c1369, q1370, d1371, e1372]
      repeat refine And.intro (by first | omega | (simp; done) | (simp; omega)) ?_
      refine hK _ ?_
      clear hK K
      refine Walk.condO rfl hx (fun c1374 hx => ?_) (fun c1374 hx => ?_)
      · refine Walk.seq (Walk.region' rfl fun K hK => ?_)
        simp only [go_sem, seval, c703, c708, c711, k712, k713, a716, b717, c718, q719, d720, e721, q722, q723, q724, a726, b727, c728, q729, d730, e731, q732, q733, q734, c1172, a1174, b1175, c1176, a1186, b1187, c1188, q1189, d1190, e1191, c1193, c1202, g1226, g1229, a1233, b1234, c1235, q1236, d1237, e1238, a1240, b1241, c1242, c1244, c1336, a1338, b1339, q1341, q1344, g1356, g1361, a1367, b1368, c1369, q1370, d1371, e1372, c1374]
        refine hK _ ?_
        clear hK K
        obtain ⟨z1375, e1376, hx⟩ := exit_elim hx
        rw [hr1334 z1375 e1376] at hx
        obtain ⟨z1377, e1378, hx⟩ := exit_elim hx
        rw [hr1170 z1377 e1378] at hx
        refine Walk.weaken ⟨[(4, .nils), (5, .d (.int .i64 29))], []⟩ (by simp [c703, c708, c711, k712, k713, a716, b717, c718, q719, d720, e721, q722, q723, q724, a726, b727, c728, q729, d730, e731, q732, q733, q734, c1172, a1174, b1175, c1176, a1186, b1187, c1188, q1189, d1190, e1191, c1193, c1202, g1226, g1229, a1233, b1234, c1235, q1236, d1237, e1238, a1240, b1241, c1242, c1244, c1336, a1338, b1339, q1341, q1344, g1356, g1361, a1367, b1368, c1369, q1370, d1371, e1372, c1374] <;> omega) (by simp [c703, c708, c711, k712, k713, a716, b717, c718, q719, d720, e721, q722, q723, q724, a726, b727, c728, q729, d730, e731, q732, q733, q734, c1172, a1174, b1175, c1176, a1186, b1187, c1188, q1189, d1190, e1191, c1193, c1202, g1226, g1229, a1233, b1234, c1235, q1236, d1237, e1238, a1240, b1241, c1242, c1244, c1336, a1338, b1339, q1341, q1344, g1356, g1361, a1367, b1368, c1369, q1370, d1371, e1372, c1374] <;> omega) ?_
        refine Walk.nil2d [(4, .d (.sl (List.map (lD iD) []))), (5, .d (.int .i64 29))] [] (by simp) (by simp) ?_
        obtain rfl := Option.some.inj hx
        exact Walk.ret ⟨by simp [c703, c708, c711, k712, k713, a716, b717, c718, q719, d720, e721, q722, q723, q724, a726, b727, c728, q729, d730, e731, q732, q733, q734, c1172, a1174, b1175, c1176, a1186, b1187, c1188, q1189, d1190, e1191, c1193, c1202, g1226, g1229, a1233, b1234, c1235, q1236, d1237, e1238, a1240, b1241, c1242, c1244, c1336, a1338, b1339, q1341, q1344, g1356, g1361, a1367, b1368, c1369, q1370, d1371, e1372, c1374], by simp [c703, c708, c711, k712, k713, a716, b717, c718, q719, d720, e721, q722, q723, q724, a726, b727, c728, q729, d730, e731, q732, q733, q734, c1172, a1174, b1175, c1176, a1186, b1187, c1188, q1189, d1190, e1191, c1193, c1202, g1226, g1229, a1233, b1234, c1235, q1236, d1237, e1238, a1240, b1241, c1242, c1244, c1336, a1338, b1339, q1341, q1344, g1356, g1361, a1367, b1368, c1369, q1370, d1371, e1372, c1374]⟩
      refine Walk.skip (Walk.seq (Walk.region' rfl fun K hK => ?_))
      obtain ⟨v224, r1379, a1380, b1381, c1382, q1383, d1384, e1385, hx⟩ := rdA_elim hx
      obtain ⟨v225, h1386, hx⟩ := bind_elim hx
      have w1387 := ((slices_Clone_int_ok v224 _ h1386).swap 2000 101018)
      simp only [renE, renL, AV.ren, AV.rens, AObj.ren, swp, Option.map_some, reduceIte, Nat.reduceEqDiff] at w1387
      simp only [go_sem, seval, c703, c708, c711, k712, k713, a716, b717, c718, q719, d720, e721, q722, q723, q724, a726, b727, c728, q729, d730, e731, q732, q733, q734, c1172, a1174, b1175, c1176, a1186, b1187, c1188, q1189, d1190, e1191, c1193, c1202, g1226, g1229, a1233, b1234, c1235, q1236, d1237, e1238, a1240, b1241, c1242, c1244, c1336, a1338, b1339, q1341, q1344, g1356, g1361, a1367, b1368, c1369, q1370, d1371, e1372, c1374, a1380, b1381, c1382, q1383, d1384, e1385]
      repeat refine And.intro (by first | omega | (simp; done) | (simp; omega)) ?_
      refine VCl.pure rfl (by simp only [go_sem, seval, c703, c708, c711, k712, k713, a716, b717, c718, q719, d720, e721, q722, q723, q724, a726, b727, c728, q729, d730, e731, q732, q733, q734, c1172, a1174, b1175, c1176, a1186, b1187, c1188, q1189, d1190, e1191, c1193, c1202, g1226, g1229, a1233, b1234, c1235, q1236, d1237, e1238, a1240, b1241, c1242, c1244, c1336, a1338, b1339, q1341, q1344, g1356, g1361, a1367, b1368, c1369, q1370, d1371, e1372, c1374, a1380, b1381, c1382, q1383, d1384, e1385]; try simp) (w1387) (by simp only [go_sem, seval, c703, c708, c711, k712, k713, a716, b717, c718, q719, d720, e721, q722, q723, q724, a726, b727, c728, q729, d730, e731, q732, q733, q734, c1172, a1174, b1175, c1176, a1186, b1187, c1188, q1189, d1190, e1191, c1193, c1202, g1226, g1229, a1233, b1234, c1235, q1236, d1237, e1238, a1240, b1241, c1242, c1244, c1336, a1338, b1339, q1341, q1344, g1356, g1361, a1367, b1368, c1369, q1370, d1371, e1372, c1374, a1380, b1381, c1382, q1383, d1384, e1385]; try simp) (by simp only [go_sem, seval, c703, c708, c711, k712, k713, a716, b717, c718, q719, d720, e721, q722, q723, q724, a726, b727, c728, q729, d730, e731, q732, q733, q734, c1172, a1174, b1175, c1176, a1186, b1187, c1188, q1189, d1190, e1191, c1193, c1202, g1226, g1229, a1233, b1234, c1235, q1236, d1237, e1238, a1240, b1241, c1242, c1244, c1336, a1338, b1339, q1341, q1344, g1356, g1361, a1367, b1368, c1369, q1370, d1371, e1372, c1374, a1380, b1381, c1382, q1383, d1384, e1385]; try simp) (by simp only [go_sem, seval, c703, c708, c711, k712, k713, a716, b717, c718, q719, d720, e721, q722, q723, q724, a726, b727, c728, q729, d730, e731, q732, q733, q734, c1172, a1174, b1175, c1176, a1186, b1187, c1188, q1189, d1190, e1191, c1193, c1202, g1226, g1229, a1233, b1234, c1235, q1236, d1237, e1238, a1240, b1241, c1242, c1244, c1336, a1338, b1339, q1341, q1344, g1356, g1361, a1367, b1368, c1369, q1370, d1371, e1372, c1374, a1380, b1381, c1382, q1383, d1384, e1385]; try simp) (by simp only [go_sem, seval, c703, c708, c711, k712, k713, a716, b717, c718, q719, d720, e721, q722, q723, q724, a726, b727, c728, q729, d730, e731, q732, q733, q734, c1172, a1174, b1175, c1176, a1186, b1187, c1188, q1189, d1190, e1191, c1193, c1202, g1226, g1229, a1233, b1234, c1235, q1236, d1237, e1238, a1240, b1241, c1242, c1244, c1336, a1338, b1339, q1341, q1344, g1356, g1361, a1367, b1368, c1369, q1370, d1371, e1372, c1374, a1380, b1381, c1382, q1383, d1384, e1385]; try simp) (by simp only [go_sem, seval, c703, c708, c711, k712, k713, a716, b717, c718, q719, d720, e721, q722, q723, q724, a726, b727, c728, q729, d730, e731, q732, q733, q734, c1172, a1174, b1175, c1176, a1186, b1187, c1188, q1189, d1190, e1191, c1193, c1202, g1226, g1229, a1233, b1234, c1235, q1236, d1237, e1238, a1240, b1241, c1242, c1244, c1336, a1338, b1339, q1341, q1344, g1356, g1361, a1367, b1368, c1369, q1370, d1371, e1372, c1374, a1380, b1381, c1382, q1383, d1384, e1385]; try simp) (by simp only [go_sem, seval, c703, c708, c711, k712, k713, a716, b717, c718, q719, d720, e721, q722, q723, q724, a726, b727, c728, q729, d730, e731, q732, q733, q734, c1172, a1174, b1175, c1176, a1186, b1187, c1188, q1189, d1190, e1191, c1193, c1202, g1226, g1229, a1233, b1234, c1235, q1236, d1237, e1238, a1240, b1241, c1242, c1244, c1336, a1338, b1339, q1341, q1344, g1356, g1361, a1367, b1368, c1369, q1370, d1371, e1372, c1374, a1380, b1381, c1382, q1383, d1384, e1385]; try simp) ?_
      obtain ⟨v226, r1388, a1389, b1390, c1391, q1392, d1393, e1394, hx⟩ := rdA_elim hx
      simp only [go_sem, seval, c703, c708, c711, k712, k713, a716, b717, c718, q719, d720, e721, q722, q723, q724, a726, b727, c728, q729, d730, e731, q732, q733, q734, c1172, a1174, b1175, c1176, a1186, b1187, c1188, q1189, d1190, e1191, c1193, c1202, g1226, g1229, a1233, b1234, c1235, q1236, d1237, e1238, a1240, b1241, c1242, c1244, c1336, a1338, b1339, q1341, q1344, g1356, g1361, a1367, b1368, c1369, q1370, d1371, e1372, c1374, a1380, b1381, c1382, q1383, d1384, e1385, a1389, b1390, c1391, q1392, d1393, e1394]
      repeat refine And.intro (by first | omega | (simp; done) | (simp; omega)) ?_
      refine hK _ ?_
      clear hK K
      refine Walk.weaken ⟨[(1, .d (.sl (List.map Node.D v3))), (2, .box 100002 0), (6, .arr 100026 0 v213.length), (7, .arr 100029 0 (((v212.set (v221).toNat true)).length)), (8, .d (.int .i64 v157)), (9, .box 100009 0), (10, .d (.int .i64 v211)), (11, .d (.int .i64 v221)), (39, .d (.sl (List.map Node.D v3))), (40, .d (.int .i64 (v3.length : Int))), (41, .d (.int .i64 v157)), (84, .agg [.d (.int .i64 v194.Zero), .d (.int .i64 v194.One)]), (85, .d (.int .i64 v211))], [(100002, some (.box [.d (.sl (List.map iD v1)), .d (.sl (List.map Row.D v2))])), (100009, some (.box [.d (.int .i64 v194.Kind), .d (.int .i64 v194.Var), .d (.int .i64 v194.Zero), .d (.int .i64 v194.One), .d (.int .i64 v194.Row), .d (.int .i64 v194.Num), .d (.int .i64 v194.Den)])), (100026, some (.box ((List.map (sA iD) v213).set (v221).toNat (.arr 101018 0 v225.length)))), (100029, some (.box (List.map bA ((v212.set (v221).toNat true))))), (101018, some (.arr 3 1 (List.map iD v225)))]⟩ (by simp [c703, c708, c711, k712, k713, a716, b717, c718, q719, d720, e721, q722, q723, q724, a726, b727, c728, q729, d730, e731, q732, q733, q734, c1172, a1174, b1175, c1176, a1186, b1187, c1188, q1189, d1190, e1191, c1193, c1202, g1226, g1229, a1233, b1234, c1235, q1236, d1237, e1238, a1240, b1241, c1242, c1244, c1336, a1338, b1339, q1341, q1344, g1356, g1361, a1367, b1368, c1369, q1370, d1371, e1372, c1374, a1380, b1381, c1382, q1383, d1384, e1385, a1389, b1390, c1391, q1392, d1393, e1394] <;> omega) (by simp [c703, c708, c711, k712, k713, a716, b717, c718, q719, d720, e721, q722, q723, q724, a726, b727, c728, q729, d730, e731, q732, q733, q734, c1172, a1174, b1175, c1176, a1186, b1187, c1188, q1189, d1190, e1191, c1193, c1202, g1226, g1229, a1233, b1234, c1235, q1236, d1237, e1238, a1240, b1241, c1242, c1244, c1336, a1338, b1339, q1341, q1344, g1356, g1361, a1367, b1368, c1369, q1370, d1371, e1372, c1374, a1380, b1381, c1382, q1383, d1384, e1385, a1389, b1390, c1391, q1392, d1393, e1394] <;> omega) ?_
      refine Walk.drawn' rfl mixed fun K hK => ?_
      obtain ⟨v227, r1395, a1396, b1397, c1398, hx⟩ := rd_elim hx
      simp only [go_sem, seval, c703, c708, c711, k712, k713, a716, b717, c718, q719, d720, e721, q722, q723, q724, a726, b727, c728, q729, d730, e731, q732, q733, q734, c1172, a1174, b1175, c1176, a1186, b1187, c1188, q1189, d1190, e1191, c1193, c1202, g1226, g1229, a1233, b1234, c1235, q1236, d1237, e1238, a1240, b1241, c1242, c1244, c1336, a1338, b1339, q1341, q1344, g1356, g1361, a1367, b1368, c1369, q1370, d1371, e1372, c1374, a1380, b1381, c1382, q1383, d1384, e1385, a1389, b1390, c1391, q1392, d1393, e1394, a1396, b1397, c1398]
      repeat refine And.intro (by first | omega | (simp; done) | (simp; omega)) ?_
      refine hK _ _ (by kernel_rfl) (by simp [c703, c708, c711, k712, k713, a716, b717, c718, q719, d720, e721, q722, q723, q724, a726, b727, c728, q729, d730, e731, q732, q733, q734, c1172, a1174, b1175, c1176, a1186, b1187, c1188, q1189, d1190, e1191, c1193, c1202, g1226, g1229, a1233, b1234, c1235, q1236, d1237, e1238, a1240, b1241, c1242, c1244, c1336, a1338, b1339, q1341, q1344, g1356, g1361, a1367, b1368, c1369, q1370, d1371, e1372, c1374, a1380, b1381, c1382, q1383, d1384, e1385, a1389, b1390, c1391, q1392, d1393, e1394, a1396, b1397, c1398]) ?_
      clear hK K
      refine Walk.weaken ⟨[(1, .d (.sl (List.map Node.D v3))), (2, .box 100002 0), (6, .arr 100026 0 v213.length), (7, .arr 100029 0 (((v212.set (v221).toNat true)).length)), (8, .d (.int .i64 v157)), (9, .box 100009 0), (39, .d (.sl (List.map Node.D v3))), (40, .d (.int .i64 (v3.length : Int))), (41, .d (.int .i64 v157)), (84, .agg [.d (.int .i64 v194.Zero), .d (.int .i64 v194.One)]), (85, .d (.int .i64 v211))], [(100002, some (.box [.d (.sl (List.map iD v1)), .d (.sl (List.map Row.D v2))])), (100009, some (.box [.d (.int .i64 v194.Kind), .d (.int .i64 v194.Var), .d (.int .i64 v194.Zero), .d (.int .i64 v194.One), .d (.int .i64 v194.Row), .d (.int .i64 v194.Num), .d (.int .i64 v194.Den)])), (100026, some (.box ((List.map (sA iD) v213).set (v221).toNat (.arr 101018 0 (((v225.set (v194.Var).toNat v211)).length))))), (100029, some (.box (List.map bA ((v212.set (v221).toNat true))))), (101018, some (.arr 3 1 (List.map iD ((v225.set (v194.Var).toNat v211)))))]⟩ (by simp [c703, c708, c711, k712, k713, a716, b717, c718, q719, d720, e721, q722, q723, q724, a726, b727, c728, q729, d730, e731, q732, q733, q734, c1172, a1174, b1175, c1176, a1186, b1187, c1188, q1189, d1190, e1191, c1193, c1202, g1226, g1229, a1233, b1234, c1235, q1236, d1237, e1238, a1240, b1241, c1242, c1244, c1336, a1338, b1339, q1341, q1344, g1356, g1361, a1367, b1368, c1369, q1370, d1371, e1372, c1374, a1380, b1381, c1382, q1383, d1384, e1385, a1389, b1390, c1391, q1392, d1393, e1394, a1396, b1397, c1398] <;> omega) (by simp [c703, c708, c711, k712, k713, a716, b717, c718, q719, d720, e721, q722, q723, q724, a726, b727, c728, q729, d730, e731, q732, q733, q734, c1172, a1174, b1175, c1176, a1186, b1187, c1188, q1189, d1190, e1191, c1193, c1202, g1226, g1229, a1233, b1234, c1235, q1236, d1237, e1238, a1240, b1241, c1242, c1244, c1336, a1338, b1339, q1341, q1344, g1356, g1361, a1367, b1368, c1369, q1370, d1371, e1372, c1374, a1380, b1381, c1382, q1383, d1384, e1385, a1389, b1390, c1391, q1392, d1393, e1394, a1396, b1397, c1398] <;> omega) ?_
      refine Walk.inBlock (Walk.region' rfl fun K hK => ?_)
      simp only [go_sem, seval, c703, c708, c711, k712, k713, a716, b717, c718, q719, d720, e721, q722, q723, q724, a726, b727, c728, q729, d730, e731, q732, q733, q734, c1172, a1174, b1175, c1176, a1186, b1187, c1188, q1189, d1190, e1191, c1193, c1202, g1226, g1229, a1233, b1234, c1235, q1236, d1237, e1238, a1240, b1241, c1242, c1244, c1336, a1338, b1339, q1341, q1344, g1356, g1361, a1367, b1368, c1369, q1370, d1371, e1372, c1374, a1380, b1381, c1382, q1383, d1384, e1385, a1389, b1390, c1391, q1392, d1393, e1394, a1396, b1397, c1398]
      refine hK _ ?_
      clear hK K
      refine Walk.weaken ⟨[(1, .d (.sl (List.map Node.D v3))), (2, .box 100002 0), (6, .arr 100026 0 v213.length), (7, .arr 100029 0 (((v212.set (v221).toNat true)).length)), (8, .d (.int .i64 v157)), (9, .box 100009 0), (39, .d (.sl (List.map Node.D v3))), (40, .d (.int .i64 (v3.length : Int))), (41, .d (.int .i64 v157)), (84, .agg [.d (.int .i64 v194.Zero), .d (.int .i64 v194.One)]), (85, .d (.int .i64 (IntKind.i64.wrap (v211 + 1))))], [(100002, some (.box [.d (.sl (List.map iD v1)), .d (.sl (List.map Row.D v2))])), (100009, some (.box [.d (.int .i64 v194.Kind), .d (.int .i64 v194.Var), .d (.int .i64 v194.Zero), .d (.int .i64 v194.One), .d (.int .i64 v194.Row), .d (.int .i64 v194.Num), .d (.int .i64 v194.Den)])), (100026, some (.box ((List.map (sA iD) v213).set (v221).toNat (.arr 101018 0 (((v225.set (v194.Var).toNat v211)).length))))), (100029, some (.box (List.map bA ((v212.set (v221).toNat true))))), (101018, some (.arr 3 1 (List.map iD ((v225.set (v194.Var).toNat v211)))))]⟩ (by simp [c703, c708, c711, k712, k713, a716, b717, c718, q719, d720, e721, q722, q723, q724, a726, b727, c728, q729, d730, e731, q732, q733, q734, c1172, a1174, b1175, c1176, a1186, b1187, c1188, q1189, d1190, e1191, c1193, c1202, g1226, g1229, a1233, b1234, c1235, q1236, d1237, e1238, a1240, b1241, c1242, c1244, c1336, a1338, b1339, q1341, q1344, g1356, g1361, a1367, b1368, c1369, q1370, d1371, e1372, c1374, a1380, b1381, c1382, q1383, d1384, e1385, a1389, b1390, c1391, q1392, d1393, e1394, a1396, b1397, c1398] <;> omega) (by simp [c703, c708, c711, k712, k713, a716, b717, c718, q719, d720, e721, q722, q723, q724, a726, b727, c728, q729, d730, e731, q732, q733, q734, c1172, a1174, b1175, c1176, a1186, b1187, c1188, q1189, d1190, e1191, c1193, c1202, g1226, g1229, a1233, b1234, c1235, q1236, d1237, e1238, a1240, b1241, c1242, c1244, c1336, a1338, b1339, q1341, q1344, g1356, g1361, a1367, b1368, c1369, q1370, d1371, e1372, c1374, a1380, b1381, c1382, q1383, d1384, e1385, a1389, b1390, c1391, q1392, d1393, e1394, a1396, b1397, c1398] <;> omega) ?_
      refine Walk.freeze 101018 3 1 (List.map iD ((v225.set (v194.Var).toNat v211))) [(1, .d (.sl (List.map Node.D v3))), (2, .box 100002 0), (6, .arr 100026 0 (((v213.set (v221).toNat ((v225.set (v194.Var).toNat v211)))).length)), (7, .arr 100029 0 (((v212.set (v221).toNat true)).length)), (8, .d (.int .i64 v157)), (9, .box 100009 0), (39, .d (.sl (List.map Node.D v3))), (40, .d (.int .i64 (v3.length : Int))), (41, .d (.int .i64 v157)), (84, .agg [.d (.int .i64 v194.Zero), .d (.int .i64 v194.One)]), (85, .d (.int .i64 (IntKind.i64.wrap (v211 + 1))))] [(100002, some (.box [.d (.sl (List.map iD v1)), .d (.sl (List.map Row.D v2))])), (100009, some (.box [.d (.int .i64 v194.Kind), .d (.int .i64 v194.Var), .d (.int .i64 v194.Zero), .d (.int .i64 v194.One), .d (.int .i64 v194.Row), .d (.int .i64 v194.Num), .d (.int .i64 v194.Den)])), (100026, some (.box (List.map (sA iD) ((v213.set (v221).toNat ((v225.set (v194.Var).toNat v211))))))), (100029, some (.box (List.map bA ((v212.set (v221).toNat true)))))] (by simp) (by simp) (by simp) ?_
      exact Walk.weaken _ (by simp [c703, c708, c711, k712, k713, a716, b717, c718, q719, d720, e721, q722, q723, q724, a726, b727, c728, q729, d730, e731, q732, q733, q734, c1172, a1174, b1175, c1176, a1186, b1187, c1188, q1189, d1190, e1191, c1193, c1202, g1226, g1229, a1233, b1234, c1235, q1236, d1237, e1238, a1240, b1241, c1242, c1244, c1336, a1338, b1339, q1341, q1344, g1356, g1361, a1367, b1368, c1369, q1370, d1371, e1372, c1374, a1380, b1381, c1382, q1383, d1384, e1385, a1389, b1390, c1391, q1392, d1393, e1394, a1396, b1397, c1398] <;> omega) (by simp [c703, c708, c711, k712, k713, a716, b717, c718, q719, d720, e721, q722, q723, q724, a726, b727, c728, q729, d730, e731, q732, q733, q734, c1172, a1174, b1175, c1176, a1186, b1187, c1188, q1189, d1190, e1191, c1193, c1202, g1226, g1229, a1233, b1234, c1235, q1236, d1237, e1238, a1240, b1241, c1242, c1244, c1336, a1338, b1339, q1341, q1344, g1356, g1361, a1367, b1368, c1369, q1370, d1371, e1372, c1374, a1380, b1381, c1382, q1383, d1384, e1385, a1389, b1390, c1391, q1392, d1393, e1394, a1396, b1397, c1398] <;> omega) (ih1333 _ (cont_elim hx))
    refine Walk.exit rfl ?_
    obtain ⟨z1399, e1400, hx⟩ := exit_elim hx
    rw [hr1334 z1399 e1400] at hx
    refine Walk.inBlock (Walk.region' rfl fun K hK => ?_)
    simp only [go_sem, seval, c703, c708, c711, k712, k713, a716, b717, c718, q719, d720, e721, q722, q723, q724, a726, b727, c728, q729, d730, e731, q732, q733, q734, c1172, a1174, b1175, c1176, a1186, b1187, c1188, q1189, d1190, e1191, c1193, c1202, g1226, g1229, a1233, b1234, c1235, q1236, d1237, e1238, a1240, b1241, c1242, c1244, c1336]
    refine hK _ ?_
    clear hK K
    exact Walk.weaken _ (by simp [c703, c708, c711, k712, k713, a716, b717, c718, q719, d720, e721, q722, q723, q724, a726, b727, c728, q729, d730, e731, q732, q733, q734, c1172, a1174, b1175, c1176, a1186, b1187, c1188, q1189, d1190, e1191, c1193, c1202, g1226, g1229, a1233, b1234, c1235, q1236, d1237, e1238, a1240, b1241, c1242, c1244, c1336] <;> omega) (by simp [c703, c708, c711, k712, k713, a716, b717, c718, q719, d720, e721, q722, q723, q724, a726, b727, c728, q729, d730, e731, q732, q733, q734, c1172, a1174, b1175, c1176, a1186, b1187, c1188, q1189, d1190, e1191, c1193, c1202, g1226, g1229, a1233, b1234, c1235, q1236, d1237, e1238, a1240, b1241, c1242, c1244, c1336] <;> omega) (ih1169 _ (cont_elim hx))
  refine Walk.exit rfl ?_
  obtain ⟨z1402, e1403, hx⟩ := exit_elim hx
  rw [hr1170 z1402 e1403] at hx
  refine Walk.seq (Walk.region' rfl fun K hK => ?_)
  simp only [go_sem, seval, c703, c708, c711, k712, k713, a716, b717, c718, q719, d720, e721, q722, q723, q724, a726, b727, c728, q729, d730, e731, q732, q733, q734, c1172]
  refine hK _ ?_
  clear hK K
  refine Walk.weaken ⟨[(4, .arr 100026 0 v159.length), (5, .d (.int .i64 0))], [(100026, some (.box (List.map (sA iD) v159)))]⟩ (by simp [c703, c708, c711, k712, k713, a716, b717, c718, q719, d720, e721, q722, q723, q724, a726, b727, c728, q729, d730, e731, q732, q733, q734, c1172] <;> omega) (by simp [c703, c708, c711, k712, k713, a716, b717, c718, q719, d720, e721, q722, q723, q724, a726, b727, c728, q729, d730, e731, q732, q733, q734, c1172] <;> omega) ?_
  refine Walk.freezeBox 100026 (List.map (slD iD) v159) [(4, .d (.sl (List.map (lD iD) v159))), (5, .d (.int .i64 0))] [] (by simp [map_iA, map_bA, map_sA, slD]) (by simp [one_iD, one_bD, one_slD, slD]) (by simp) ?_
  obtain rfl := Option.some.inj hx
  exact Walk.ret ⟨by simp [c703, c708, c711, k712, k713, a716, b717, c718, q719, d720, e721, q722, q723, q724, a726, b727, c728, q729, d730, e731, q732, q733, q734, c1172], by simp [c703, c708, c711, k712, k713, a716, b717, c718, q719, d720, e721, q722, q723, q724, a726, b727, c728, q729, d730, e731, q732, q733, q734, c1172]⟩
end Go.AX

