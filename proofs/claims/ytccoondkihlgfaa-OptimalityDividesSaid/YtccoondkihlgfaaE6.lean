import Derived.Test.YtccoondkihlgfaaE5
set_option linter.unusedVariables false
set_option linter.unusedSimpArgs false
set_option maxRecDepth 20000
set_option maxHeartbeats 4000000
namespace Go.AX
open Go.Proofs
attribute [local simp] spl_len take_snoc take_cons_drop cons_rep cons_tail iA bA take_set_len idsL_rep idsL_iA idsL_bA idsL_sA idsL_set_mem idsL_sub sA_def List.map_replicate frVs_setS frVs_self frV_arr take_map_len subE subH eget hget upE upV upH upO_refl upO_box upVs freshE freshH freshO AV.ids AV.idsL ids_box ids_arr frE frV_refl frV_arr frH frO_refl frO_box frVs newOk evalA AV.viewXs AV.viewX AV.viewXP AV.viewXPs AV.viewPs AV.viewP AV.flat AV.flatL D.flat arrsOnly flatObjs newNames subOf closedIn allSome dstOk newOrOld avD avDp zv_i64 zv_u8 zv_bool zv_nils zv_nilp zv_str retAV aLoad cut TI.isAgg nlE nlH nlO_refl nlO_box nlVs nlV_refl nlV_nil iD uD bD tD lD List.map_set ti2 ti3 ti4 ti5 ti6 ti7 ti8 ti9 ti10 ti11 ti12 ti13 ti14 ti15 ti16 ti17 ti18 ti19 ti21 ti22 ti23 ti25 ti26 ti27 ti32 ti33 ti34 ti41 ti42 ti50 ti51 ti56 ti60 ti61 ti63 ti64 ti74 ti76 ti89 ti92 ti96 ti97 ti98 ti99 ti100 ti101 ti102 ti104 ti105 ti106 ti107 ti108 Row.D Node.D
attribute [local go_sem] V1_none V1_some V_nil V_move V_assign V_pick V_bin V_un V_extract V_makeFunc V_convert V_nilCheck V_fieldAddr V_field V_load V_store V_indexAddr V_index V_slice V_slice0 V_alloc V_box V_build V_buildSlice V_makeSlice V_len V_min V_max V_append V_copy V_call V_guard VGs_some VG_tt VG_ff VG_tf VG_ft VG_u gslot ok fail po so aNew dstOk freshU addLog_none' addLog_some' St.step putL evalA eget hget argE freshE freshO freshH AV.ids AV.idsL AV.ok1 AV.cells ids_box ids_arr liveBox liveArr isArr isObj isBoxB aPick isNilC aNilEq aBin aUn aExtract aMakeFunc aConvert aNilCheck aFieldAddr aField cut aLen aIndexAddr aMin aMax aIndex bnd isInt aSlice aSlice0 aLoad aAlloc aBox aStore splice aMake aMakeBox aCopy cellsOf cellsOfP updIds newIds zv_i64 zv_u8 zv_bool zv_nils zv_nilp cond_bool cond_int TI.isAgg TK.isSl TK.el okL avDps avDp avD List.map_cons List.map_nil List.append_nil List.nil_append List.cons_append List.length_cons List.length_nil List.take_succ_cons List.take_zero List.drop_succ_cons List.drop_zero List.take_nil List.drop_nil List.headD_cons List.getD_cons_zero List.getD_cons_succ List.mem_cons List.not_mem_nil List.getElem?_cons_zero List.getElem?_cons_succ List.toList_toArray Option.getD_some Option.getD_none Option.bind_some Option.bind_none Option.map_some Option.map_none Option.getD Option.toList Nat.zero_add Nat.add_zero Nat.zero_le Nat.le_refl if_true if_false ite_self true_and and_true false_and and_false true_or or_true false_or or_false not_true_eq_false not_false_eq_true ne_eq cond_true cond_false Bool.true_eq_false Bool.false_eq_true forall_const decide_true decide_false implies_true true_implies and_self or_self Nat.succ_ne_zero Int.toNat_natCast Int.natCast_nonneg List.length_map decide_eq_true_eq AV.views AV.view AV.viewPs AV.viewP arrsOnly newNames List.length_append List.append_assoc Bool.not_true Bool.not_false AV.ok2 aBuild fillR fillP aBuildSlice dense elP aAppend esOf esOfP List.forall_mem_cons forall_eq_or_imp forall_eq zD zDp map_take' map_drop' iD uD bD tD lD iD_len uD_len bD_len tD_len lD_len LB Int.cast_ofNat_Int Int.natCast_zero Int.natCast_one head_len all_len List.head?_cons List.head?_nil Bool.not_not eq_self List.take_length zv_str aConv byteOf isByte map_bcell bytes_all str_map cellsEq cellsP AV.kd Bool.and_true Bool.true_and Bool.and_false Bool.false_and spl_map spl_len mkbox_i mkbox_b flat_iD dataL_iA dataL_bA zv_u64 flat_iD' flat_len dataL_tA dataL_ttA spl_mt spl_mtt mkbox_s splice_one take_cons_drop cons_rep cons_tail hd_set hd_set0 List.length_replicate iA bA sA_def List.set_set List.length_set idsL_iA idsL_bA idsL_sA idsL_setE idsL_rep List.append_eq Nat.mul_one ti2 ti3 ti4 ti5 ti6 ti7 ti8 ti9 ti10 ti11 ti12 ti13 ti14 ti15 ti16 ti17 ti18 ti19 ti21 ti22 ti23 ti25 ti26 ti27 ti32 ti33 ti34 ti41 ti42 ti50 ti51 ti56 ti60 ti61 ti63 ti64 ti74 ti76 ti89 ti92 ti96 ti97 ti98 ti99 ti100 ti101 ti102 ti104 ti105 ti106 ti107 ti108 Row.D Node.D Row.D_len Node.D_len
noncomputable def ref08_Blocked (v1 : List Int) (v2 : Int) (v3 : Int) (v4 : List Int) : Option (Bool) :=
  (ref08_Span v1 v2 v3 v4).bind fun v7 => bif v7.2.2 then (bif decide (v7.1 > v3) then (some (true : Bool)) else (bif decide (v7.2.1 < v2) then (some (true : Bool)) else (some (decide (v2 > v3) : Bool)))) else (some (false : Bool))
theorem ref08_Blocked_ok (v1 : List Int) (v2 : Int) (v3 : Int) (v4 : List Int) (r : Bool) (hx : ref08_Blocked v1 v2 v3 v4 = some r) :
    ACalls Try.prog 55 [.agg [.d (.sl (List.map iD v1)), .d (.int .i64 v2), .d (.int .i64 v3)], .d (.sl (List.map iD v4))] [] (.d (.bool r)) [] := by
  refine ACalls.of_sem (n := 35) 0 [4] (fn := Try.f55) Try.func55 rfl rfl (.one rfl) rfl (by simp) (by intro i; simp only [hget]; (repeat' split) <;> simp <;> omega) ?_
  unfold ref08_Blocked at hx
  refine Walk.seq (Walk.region' rfl fun K hK => ?_)
  simp only [go_sem, seval]
  refine hK _ ?_
  clear hK K
  refine Walk.seq (Walk.region' rfl fun K hK => ?_)
  obtain ⟨v7, h5, hx⟩ := bind_elim hx
  simp only [go_sem, seval]
  refine VCl.pure rfl (by simp only [go_sem, seval]; try simp) (ref08_Span_ok v1 v2 v3 v4 _ h5) (by simp only [go_sem, seval]; try simp) (by simp only [go_sem, seval]; try simp) (by simp only [go_sem, seval]; try simp) (by simp only [go_sem, seval]; try simp) (by simp only [go_sem, seval]; try simp) (by simp only [go_sem, seval]; try simp) ?_
  simp only [go_sem, seval]
  refine hK _ ?_
  clear hK K
  refine Walk.seq (Walk.region' rfl fun K hK => ?_)
  simp only [go_sem, seval]
  refine VGdO hx (fun g6 hx => ?_) (fun g6 hx => ?_)
  · simp only [go_sem, seval, g6]
    refine VGdO hx (fun g7 hx => ?_) (fun g7 hx => ?_)
    · simp only [go_sem, seval, g6, g7]
      refine hK _ ?_
      clear hK K
      obtain rfl := Option.some.inj hx
      exact Walk.ret ⟨by simp [g6, g7], by simp [g6, g7]⟩
    simp only [go_sem, seval, g6, g7]
    refine VGdO hx (fun g8 hx => ?_) (fun g8 hx => ?_)
    · simp only [go_sem, seval, g6, g7, g8]
      refine hK _ ?_
      clear hK K
      obtain rfl := Option.some.inj hx
      exact Walk.ret ⟨by simp [g6, g7, g8], by simp [g6, g7, g8]⟩
    simp only [go_sem, seval, g6, g7, g8]
    refine hK _ ?_
    clear hK K
    obtain rfl := Option.some.inj hx
    exact Walk.ret ⟨by simp [g6, g7, g8], by simp [g6, g7, g8]⟩
  simp only [go_sem, seval, g6]
  refine hK _ ?_
  clear hK K
  obtain rfl := Option.some.inj hx
  exact Walk.ret ⟨by simp [g6], by simp [g6]⟩
noncomputable def ref08_Dead_l0 (v2 : List Row) (v3 : List Int) (v22 : Int) : Option ((Int) ⊕ (Int)) :=
  bif decide (v22 < (v2.length : Int)) then ((rd v2 v22).bind fun v25 => (ref08_Blocked v25.Coefs v25.Least v25.Most v3).bind fun v26 => bif v26 then (exitO (some (v22 : Int))) else (contO (IntKind.i64.wrap (v22 + 1) : Int))) else (exitO (some (-1 : Int)))
noncomputable def ref08_Dead (v1 : List Int) (v2 : List Row) (v3 : List Int) : Option (Int) :=
  (ref08_Valid v1 v2).bind fun v18 => bif !v18 then (some (-1 : Int)) else ((ref08_State (v1.length : Int) v3).bind fun v19 => bif !v19 then (some (-1 : Int)) else (iter (fun g : Int => ref08_Dead_l0 v2 v3 g) 0))
theorem ref08_Dead_ok (v1 : List Int) (v2 : List Row) (v3 : List Int) (r : Int) (hx : ref08_Dead v1 v2 v3 = some r) :
    ACalls Try.prog 47 [.agg [.d (.sl (List.map iD v1)), .d (.sl (List.map Row.D v2))], .d (.sl (List.map iD v3))] [] (.d (.int .i64 r)) [] := by
  refine ACalls.of_sem (n := 32) 0 [4] (fn := Try.f47) Try.func47 rfl rfl (.one rfl) rfl (by simp) (by intro i; simp only [hget]; (repeat' split) <;> simp <;> omega) ?_
  unfold ref08_Dead at hx
  refine Walk.seq (Walk.region' rfl fun K hK => ?_)
  simp only [go_sem, seval]
  refine hK _ ?_
  clear hK K
  refine Walk.seq (Walk.seq (Walk.region' rfl fun K hK => ?_))
  obtain ⟨v18, h45, hx⟩ := bind_elim hx
  simp only [go_sem, seval]
  refine VCl.pure rfl (by simp only [go_sem, seval]; try simp) (ref08_Valid_ok v1 v2 _ h45) (by simp only [go_sem, seval]; try simp) (by simp only [go_sem, seval]; try simp) (by simp only [go_sem, seval]; try simp) (by simp only [go_sem, seval]; try simp) (by simp only [go_sem, seval]; try simp) (by simp only [go_sem, seval]; try simp) ?_
  simp only [go_sem, seval]
  refine VGdO hx (fun g46 hx => ?_) (fun g46 hx => ?_)
  · simp only [go_sem, seval, g46]
    refine hK _ ?_
    clear hK K
    refine Walk.condT rfl (Walk.seq (Walk.region' rfl fun K hK => ?_))
    simp only [go_sem, seval, g46]
    refine hK _ ?_
    clear hK K
    obtain rfl := Option.some.inj hx
    exact Walk.ret ⟨by simp [g46], by simp [g46]⟩
  obtain ⟨v19, h47, hx⟩ := bind_elim hx
  simp only [go_sem, seval, g46]
  refine VCl.pure rfl (by simp only [go_sem, seval, g46]; try simp) (ref08_State_ok (v1.length : Int) v3 _ h47) (by simp only [go_sem, seval, g46]; try simp) (by simp only [go_sem, seval, g46]; try simp) (by simp only [go_sem, seval, g46]; try simp) (by simp only [go_sem, seval, g46]; try simp) (by simp only [go_sem, seval, g46]; try simp) (by simp only [go_sem, seval, g46]; try simp) ?_
  simp only [go_sem, seval, g46]
  refine hK _ ?_
  clear hK K
  refine Walk.condO rfl hx (fun c49 hx => ?_) (fun c49 hx => ?_)
  · refine Walk.seq (Walk.region' rfl fun K hK => ?_)
    simp only [go_sem, seval, g46, c49]
    refine hK _ ?_
    clear hK K
    obtain rfl := Option.some.inj hx
    exact Walk.ret ⟨by simp [g46, c49], by simp [g46, c49]⟩
  refine Walk.skip (Walk.seq (Walk.seq (Walk.region' rfl fun K hK => ?_)))
  simp only [go_sem, seval, g46, c49]
  refine hK _ ?_
  clear hK K
  refine Walk.block (Walk.loop ?_)
  refine Walk.weaken ⟨[(1, .d (.sl (List.map iD v3))), (2, .box 2 0), (5, .d (.int .i64 0))], [(2, some (.box [.d (.sl (List.map iD v1)), .d (.sl (List.map Row.D v2))]))]⟩ (by simp [g46, c49] <;> omega) (by simp [g46, c49] <;> omega) ?_
  refine Walk.iter (σ := Int) (fun g => ⟨[(1, .d (.sl (List.map iD v3))), (2, .box 2 0), (5, .d (.int .i64 g))], [(2, some (.box [.d (.sl (List.map iD v1)), .d (.sl (List.map Row.D v2))]))]⟩) (fun g : Int => ref08_Dead_l0 v2 v3 g) _ (fun v22 y83 hx ih68 hr69 => ?_) 0 hx
  unfold ref08_Dead_l0 at hx
  try dsimp only at hx ⊢
  refine Walk.seq (Walk.seq (Walk.region' rfl fun K hK => ?_))
  simp only [go_sem, seval, g46, c49]
  refine hK _ ?_
  clear hK K
  refine Walk.condO rfl hx (fun c72 hx => ?_) (fun c72 hx => ?_)
  · refine Walk.skip (Walk.seq (Walk.block (Walk.seq (Walk.region' rfl fun K hK => ?_))))
    obtain ⟨v25, r73, a74, b75, c76, hx⟩ := rd_elim hx
    obtain ⟨v26, h77, hx⟩ := bind_elim hx
    simp only [go_sem, seval, g46, c49, c72, a74, b75, c76]
    repeat refine And.intro (by first | omega | (simp; done) | (simp; omega)) ?_
    refine VCl.pure rfl (by simp only [go_sem, seval, g46, c49, c72, a74, b75, c76]; try simp) (ref08_Blocked_ok v25.Coefs v25.Least v25.Most v3 _ h77) (by simp only [go_sem, seval, g46, c49, c72, a74, b75, c76]; try simp) (by simp only [go_sem, seval, g46, c49, c72, a74, b75, c76]; try simp) (by simp only [go_sem, seval, g46, c49, c72, a74, b75, c76]; try simp) (by simp only [go_sem, seval, g46, c49, c72, a74, b75, c76]; try simp) (by simp only [go_sem, seval, g46, c49, c72, a74, b75, c76]; try simp) (by simp only [go_sem, seval, g46, c49, c72, a74, b75, c76]; try simp) ?_
    simp only [go_sem, seval, g46, c49, c72, a74, b75, c76]
    refine hK _ ?_
    clear hK K
    refine Walk.condO rfl hx (fun c78 hx => ?_) (fun c78 hx => ?_)
    · refine Walk.seq (Walk.region' rfl fun K hK => ?_)
      simp only [go_sem, seval, g46, c49, c72, a74, b75, c76, c78]
      refine hK _ ?_
      clear hK K
      obtain ⟨z79, e80, hx⟩ := exit_elim hx
      rw [hr69 z79 e80] at hx
      obtain rfl := Option.some.inj hx
      exact Walk.ret ⟨by simp [g46, c49, c72, a74, b75, c76, c78], by simp [g46, c49, c72, a74, b75, c76, c78]⟩
    refine Walk.skip (Walk.inBlock (Walk.region' rfl fun K hK => ?_))
    simp only [go_sem, seval, g46, c49, c72, a74, b75, c76, c78]
    refine hK _ ?_
    clear hK K
    exact Walk.weaken _ (by simp [g46, c49, c72, a74, b75, c76, c78] <;> omega) (by simp [g46, c49, c72, a74, b75, c76, c78] <;> omega) (ih68 _ (cont_elim hx))
  refine Walk.exit rfl ?_
  obtain ⟨z81, e82, hx⟩ := exit_elim hx
  rw [hr69 z81 e82] at hx
  refine Walk.seq (Walk.region' rfl fun K hK => ?_)
  simp only [go_sem, seval, g46, c49, c72]
  refine hK _ ?_
  clear hK K
  obtain rfl := Option.some.inj hx
  exact Walk.ret ⟨by simp [g46, c49, c72], by simp [g46, c49, c72]⟩
noncomputable def mk_Tape_Leaf_j0 (v4 : List Row) (v1 : List Int) (v21 : Int) : Option (Int × Int × Int × Int × Int) :=
  bif decide ((v4.length : Int) = 0) then (some ((v21, 3, -1, 0, 1) : Int × Int × Int × Int × Int)) else ((mk_Tape_Next v1 v21 3).bind fun v23 => bif decide (v23.1 = 0) then (some ((v23.2, 3, -1, 0, 1) : Int × Int × Int × Int × Int)) else ((mk_Tape_Next v1 v23.2 (v4.length : Int)).bind fun v24 => (mk_Tape_Pick v1 v24.2 [0, 1, 2, 3, 5, -1, -2, 7]).bind fun v25 => (mk_Tape_Pick v1 v25.2 [1, 1, 2, 3]).bind fun v26 => some ((v26.2, 3, v24.1, v25.1, v26.1) : Int × Int × Int × Int × Int)))
noncomputable def mk_Tape_Leaf (v1 : List Int) (v2 : Int) (v3 : List Int) (v4 : List Row) (v5 : List Int) : Option (Int × Int × Int × Int × Int) :=
  (ref08_Dead v3 v4 v5).bind fun v19 => bif decide (v19 ≥ 0) then ((mk_Tape_Next v1 v2 3).bind fun v27 => bif decide (v27.1 > 0) then (some ((v27.2, 2, v19, 0, 0) : Int × Int × Int × Int × Int)) else (mk_Tape_Leaf_j0 v4 v1 v27.2)) else (mk_Tape_Leaf_j0 v4 v1 v2)
theorem mk_Tape_Leaf_ok (v1 : List Int) (v2 : Int) (v3 : List Int) (v4 : List Row) (v5 : List Int) (r : Int × Int × Int × Int × Int) (hx : mk_Tape_Leaf v1 v2 v3 v4 v5 = some r) :
    ACalls Try.prog 48 [.box 0 0, .agg [.d (.sl (List.map iD v3)), .d (.sl (List.map Row.D v4))], .d (.sl (List.map iD v5))] [(0, some (.box [.d (.sl (List.map iD v1)), .d (.int .i64 v2)]))] (.agg [.d (.int .i64 r.2.1), .d (.int .i64 0), .d (.int .i64 0), .d (.int .i64 0), .d (.int .i64 r.2.2.1), .d (.int .i64 r.2.2.2.1), .d (.int .i64 r.2.2.2.2)]) [(0, some (.box [.d (.sl (List.map iD v1)), .d (.int .i64 r.1)]))] := by
  refine ACalls.of_cellS (n := 42) 1 6 33 (fn := Try.f48) Try.func48 rfl rfl rfl rfl (by simp) (by intro i; simp only [hget]; (repeat' split) <;> simp <;> omega) ?_
  unfold mk_Tape_Leaf at hx
  refine Walk.seq (Walk.region' rfl fun K hK => ?_)
  simp only [go_sem, seval]
  refine hK _ ?_
  clear hK K
  refine Walk.seq (Walk.region' rfl fun K hK => ?_)
  obtain ⟨v19, h15, hx⟩ := bind_elim hx
  simp only [go_sem, seval]
  refine VCl.pure rfl (by simp only [go_sem, seval]; try simp) (ref08_Dead_ok v3 v4 v5 _ h15) (by simp only [go_sem, seval]; try simp) (by simp only [go_sem, seval]; try simp) (by simp only [go_sem, seval]; try simp) (by simp only [go_sem, seval]; try simp) (by simp only [go_sem, seval]; try simp) (by simp only [go_sem, seval]; try simp) ?_
  simp only [go_sem, seval]
  refine hK _ ?_
  clear hK K
  refine Walk.seq (Walk.join (G := Int) (fun g => ⟨[(0, .box 0 0), (4, .box 5 0), (6, .box 7 0)], [(0, some (.box [.d (.sl (List.map iD v1)), .d (.int .i64 g)])), (5, some (.box [.d (.sl (List.map iD v3)), .d (.sl (List.map Row.D v4))])), (7, some (.box [.d (.int .i64 0), .d (.int .i64 0), .d (.int .i64 0), .d (.int .i64 0), .d (.int .i64 0), .d (.int .i64 0), .d (.int .i64 0)]))]⟩) (fun g => mk_Tape_Leaf_j0 v4 v1 g) hx (fun v21 hx => ?_) (fun fin19 => ?_))
  · unfold mk_Tape_Leaf_j0 at hx
    try dsimp only at hx ⊢
    refine Walk.seq (Walk.seq (Walk.region' rfl fun K hK => ?_))
    simp only [go_sem, seval]
    refine VGdO hx (fun g23 hx => ?_) (fun g23 hx => ?_)
    · simp only [go_sem, seval, g23]
      refine hK _ ?_
      clear hK K
      refine Walk.condT rfl (Walk.seq (Walk.region' rfl fun K hK => ?_))
      simp only [go_sem, seval, g23]
      refine hK _ ?_
      clear hK K
      refine Walk.weaken ⟨[(6, .box 7 0)], [(0, some (.box [.d (.sl (List.map iD v1)), .d (.int .i64 v21)])), (7, some (.box [.d (.int .i64 3), .d (.int .i64 0), .d (.int .i64 0), .d (.int .i64 0), .d (.int .i64 (-1)), .d (.int .i64 0), .d (.int .i64 1)]))]⟩ (by simp [g23] <;> omega) (by simp [g23] <;> omega) ?_
      refine Walk.rename 7 2000 (by omega) (by omega) (by simp) (by simp) ?_
      simp only [renE, renL, AV.ren, AV.rens, AObj.ren, swp, Option.map_some, reduceIte, Nat.reduceEqDiff]
      obtain rfl := Option.some.inj hx
      exact Walk.ret ⟨2000, 0, by simp, by simp, by simp [g23], by simp [g23]⟩
    obtain ⟨v23, h24, hx⟩ := bind_elim hx
    simp only [go_sem, seval, g23]
    refine VCl.sub [(0, some (.box [.d (.sl (List.map iD v1)), .d (.int .i64 v21)]))] [] rfl (by simp only [go_sem, seval, AV.viewXs, AV.viewX, avD, g23]; try simp) (mk_Tape_Next_ok v1 v21 3 _ h24) (by simp [g23]) (by simp [g23]) (by simp [g23]) (by simp [g23]) (by simp [g23]) (by simp [g23]) (by simp [g23]) (by simp [g23]) (by simp [g23]) (by simp [g23]) ?_
    simp only [go_sem, seval, g23]
    refine hK _ ?_
    clear hK K
    refine Walk.weaken ⟨[(0, .box 0 0), (4, .box 5 0), (6, .box 7 0), (28, .d (.bool (decide (v23.1 = 0))))], [(0, some (.box [.d (.sl (List.map iD v1)), .d (.int .i64 v23.2)])), (5, some (.box [.d (.sl (List.map iD v3)), .d (.sl (List.map Row.D v4))])), (7, some (.box [.d (.int .i64 0), .d (.int .i64 0), .d (.int .i64 0), .d (.int .i64 0), .d (.int .i64 0), .d (.int .i64 0), .d (.int .i64 0)]))]⟩ (by simp [g23] <;> omega) (by simp [g23] <;> omega) ?_
    refine Walk.condO rfl hx (fun c26 hx => ?_) (fun c26 hx => ?_)
    · refine Walk.seq (Walk.region' rfl fun K hK => ?_)
      simp only [go_sem, seval, g23, c26]
      refine hK _ ?_
      clear hK K
      refine Walk.weaken ⟨[(6, .box 7 0)], [(0, some (.box [.d (.sl (List.map iD v1)), .d (.int .i64 v23.2)])), (7, some (.box [.d (.int .i64 3), .d (.int .i64 0), .d (.int .i64 0), .d (.int .i64 0), .d (.int .i64 (-1)), .d (.int .i64 0), .d (.int .i64 1)]))]⟩ (by simp [g23, c26] <;> omega) (by simp [g23, c26] <;> omega) ?_
      refine Walk.rename 7 2000 (by omega) (by omega) (by simp) (by simp) ?_
      simp only [renE, renL, AV.ren, AV.rens, AObj.ren, swp, Option.map_some, reduceIte, Nat.reduceEqDiff]
      obtain rfl := Option.some.inj hx
      exact Walk.ret ⟨2000, 0, by simp, by simp, by simp [g23, c26], by simp [g23, c26]⟩
    refine Walk.skip (Walk.seq (Walk.region' rfl fun K hK => ?_))
    obtain ⟨v24, h27, hx⟩ := bind_elim hx
    simp only [go_sem, seval, g23, c26]
    refine VCl.sub [(0, some (.box [.d (.sl (List.map iD v1)), .d (.int .i64 v23.2)]))] [] rfl (by simp only [go_sem, seval, AV.viewXs, AV.viewX, avD, g23, c26]; try simp) (mk_Tape_Next_ok v1 v23.2 (v4.length : Int) _ h27) (by simp [g23, c26]) (by simp [g23, c26]) (by simp [g23, c26]) (by simp [g23, c26]) (by simp [g23, c26]) (by simp [g23, c26]) (by simp [g23, c26]) (by simp [g23, c26]) (by simp [g23, c26]) (by simp [g23, c26]) ?_
    obtain ⟨v25, h28, hx⟩ := bind_elim hx
    simp only [go_sem, seval, g23, c26]
    refine VCl.sub [(0, some (.box [.d (.sl (List.map iD v1)), .d (.int .i64 v24.2)]))] [37] rfl (by simp only [go_sem, seval, AV.viewXs, AV.viewX, avD, g23, c26]; try simp) (mk_Tape_Pick_ok v1 v24.2 [0, 1, 2, 3, 5, -1, -2, 7] _ h28) (by simp [g23, c26]) (by simp [g23, c26]) (by simp [g23, c26]) (by simp [g23, c26]) (by simp [g23, c26]) (by simp [g23, c26]) (by simp [g23, c26]) (by simp [g23, c26]) (by simp [g23, c26]) (by simp [g23, c26]) ?_
    obtain ⟨v26, h29, hx⟩ := bind_elim hx
    simp only [go_sem, seval, g23, c26]
    refine VCl.sub [(0, some (.box [.d (.sl (List.map iD v1)), .d (.int .i64 v25.2)]))] [40] rfl (by simp only [go_sem, seval, AV.viewXs, AV.viewX, avD, g23, c26]; try simp) (mk_Tape_Pick_ok v1 v25.2 [1, 1, 2, 3] _ h29) (by simp [g23, c26]) (by simp [g23, c26]) (by simp [g23, c26]) (by simp [g23, c26]) (by simp [g23, c26]) (by simp [g23, c26]) (by simp [g23, c26]) (by simp [g23, c26]) (by simp [g23, c26]) (by simp [g23, c26]) ?_
    simp only [go_sem, seval, g23, c26]
    refine hK _ ?_
    clear hK K
    refine Walk.weaken ⟨[(6, .box 7 0)], [(0, some (.box [.d (.sl (List.map iD v1)), .d (.int .i64 v26.2)])), (7, some (.box [.d (.int .i64 3), .d (.int .i64 0), .d (.int .i64 0), .d (.int .i64 0), .d (.int .i64 v24.1), .d (.int .i64 v25.1), .d (.int .i64 v26.1)]))]⟩ (by simp [g23, c26] <;> omega) (by simp [g23, c26] <;> omega) ?_
    refine Walk.weaken ⟨[(6, .box 7 0)], [(0, some (.box [.d (.sl (List.map iD v1)), .d (.int .i64 v26.2)])), (7, some (.box [.d (.int .i64 3), .d (.int .i64 0), .d (.int .i64 0), .d (.int .i64 0), .d (.int .i64 v24.1), .d (.int .i64 v25.1), .d (.int .i64 v26.1)]))]⟩ (by simp [g23, c26] <;> omega) (by simp [g23, c26] <;> omega) ?_
    refine Walk.rename 7 2000 (by omega) (by omega) (by simp) (by simp) ?_
    simp only [renE, renL, AV.ren, AV.rens, AObj.ren, swp, Option.map_some, reduceIte, Nat.reduceEqDiff]
    obtain rfl := Option.some.inj hx
    exact Walk.ret ⟨2000, 0, by simp, by simp, by simp [g23, c26], by simp [g23, c26]⟩
  refine Walk.seq (Walk.region' rfl fun K hK => ?_)
  simp only [go_sem, seval]
  refine VGdO hx (fun g30 hx => ?_) (fun g30 hx => ?_)
  · obtain ⟨v27, h31, hx⟩ := bind_elim hx
    simp only [go_sem, seval, g30]
    refine VCl.sub [(0, some (.box [.d (.sl (List.map iD v1)), .d (.int .i64 v2)]))] [] rfl (by simp only [go_sem, seval, AV.viewXs, AV.viewX, avD, g30]; try simp) (mk_Tape_Next_ok v1 v2 3 _ h31) (by simp [g30]) (by simp [g30]) (by simp [g30]) (by simp [g30]) (by simp [g30]) (by simp [g30]) (by simp [g30]) (by simp [g30]) (by simp [g30]) (by simp [g30]) ?_
    simp only [go_sem, seval, g30]
    refine hK _ ?_
    clear hK K
    refine Walk.weaken ⟨[(0, .box 0 0), (4, .box 5 0), (6, .box 7 0), (7, .d (.int .i64 v19)), (17, .d (.bool (decide (v27.1 > 0))))], [(0, some (.box [.d (.sl (List.map iD v1)), .d (.int .i64 v27.2)])), (5, some (.box [.d (.sl (List.map iD v3)), .d (.sl (List.map Row.D v4))])), (7, some (.box [.d (.int .i64 0), .d (.int .i64 0), .d (.int .i64 0), .d (.int .i64 0), .d (.int .i64 0), .d (.int .i64 0), .d (.int .i64 0)]))]⟩ (by simp [g30] <;> omega) (by simp [g30] <;> omega) ?_
    refine Walk.condO rfl hx (fun c32 hx => ?_) (fun c32 hx => ?_)
    · refine Walk.seq (Walk.region' rfl fun K hK => ?_)
      simp only [go_sem, seval, g30, c32]
      refine hK _ ?_
      clear hK K
      refine Walk.weaken ⟨[(6, .box 7 0)], [(0, some (.box [.d (.sl (List.map iD v1)), .d (.int .i64 v27.2)])), (7, some (.box [.d (.int .i64 2), .d (.int .i64 0), .d (.int .i64 0), .d (.int .i64 0), .d (.int .i64 v19), .d (.int .i64 0), .d (.int .i64 0)]))]⟩ (by simp [g30, c32] <;> omega) (by simp [g30, c32] <;> omega) ?_
      refine Walk.rename 7 2000 (by omega) (by omega) (by simp) (by simp) ?_
      simp only [renE, renL, AV.ren, AV.rens, AObj.ren, swp, Option.map_some, reduceIte, Nat.reduceEqDiff]
      obtain rfl := Option.some.inj hx
      exact Walk.ret ⟨2000, 0, by simp, by simp, by simp [g30, c32], by simp [g30, c32]⟩
    refine Walk.skip ?_
    exact Walk.weaken _ (by simp [g30, c32] <;> omega) (by simp [g30, c32] <;> omega) (fin19 v27.2 hx)
  simp only [go_sem, seval, g30]
  refine hK _ ?_
  clear hK K
  refine Walk.condF rfl (Walk.skip ?_)
  exact Walk.weaken _ (by simp [g30] <;> omega) (by simp [g30] <;> omega) (fin19 v2 hx)
noncomputable def mk_Tape_Tree_j4 (v78 : List Node) (v96 : List Int) (v101 : Int) (v81 : List (List Int)) (v103 : Bool) (v79 : Int) (v108 : Int) : Option ((Bool × List Node × Int × Int × List (List Int)) ⊕ (Int × List Node)) :=
  chk ((v78.length + 1) * 56 ≤ 140737488355328) (chk ((v96.length) * 8 ≤ 140737488355328) (chk ((v96.length) * 8 ≤ 140737488355328) ((rd v96 v101).bind fun v109 => chk ((v81.length + 2) * 24 ≤ 140737488355328) (contO ((v103, (v78 ++ [(Node.mk 1 v101 (v81.length : Int) (IntKind.i64.wrap ((v81.length : Int) + 1)) 0 0 0)]), IntKind.i64.wrap (v79 + 1), v108, (v81 ++ [(v96.set (v101).toNat 0), (v96.set (v101).toNat 1)])) : Bool × List Node × Int × Int × List (List Int))))))
noncomputable def mk_Tape_Tree_j3 (v101 : Int) (v78 : List Node) (v79 : Int) (v80 : Int) (v81 : List (List Int)) (v1 : List Int) (v3 : List Int) (v4 : List Row) (v96 : List Int) (v103 : Bool) : Option ((Bool × List Node × Int × Int × List (List Int)) ⊕ (Int × List Node)) :=
  bif decide (v101 < 0) then (bif v103 then (chk ((v78.length + 1) * 56 ≤ 140737488355328) (contO ((true, (v78 ++ [(Node.mk 3 0 0 0 (-1) 0 1)]), IntKind.i64.wrap (v79 + 1), v80, v81) : Bool × List Node × Int × Int × List (List Int)))) else ((mk_Tape_Leaf v1 v80 v3 v4 v96).bind fun v110 => chk ((v78.length + 1) * 56 ≤ 140737488355328) (contO ((false, (v78 ++ [(Node.mk v110.2.1 0 0 0 v110.2.2.1 v110.2.2.2.1 v110.2.2.2.2)]), IntKind.i64.wrap (v79 + 1), v110.1, v81) : Bool × List Node × Int × Int × List (List Int))))) else (bif !v103 then ((mk_Tape_Next v1 v80 2).bind fun v111 => bif decide (v111.1 = 0) then (bif v103 then (chk ((v78.length + 1) * 56 ≤ 140737488355328) (contO ((true, (v78 ++ [(Node.mk 3 0 0 0 (-1) 0 1)]), IntKind.i64.wrap (v79 + 1), v111.2, v81) : Bool × List Node × Int × Int × List (List Int)))) else ((mk_Tape_Leaf v1 v111.2 v3 v4 v96).bind fun v112 => chk ((v78.length + 1) * 56 ≤ 140737488355328) (contO ((false, (v78 ++ [(Node.mk v112.2.1 0 0 0 v112.2.2.1 v112.2.2.2.1 v112.2.2.2.2)]), IntKind.i64.wrap (v79 + 1), v112.1, v81) : Bool × List Node × Int × Int × List (List Int))))) else (bif decide ((v81.length : Int) > 40) then (bif v103 then (chk ((v78.length + 1) * 56 ≤ 140737488355328) (contO ((true, (v78 ++ [(Node.mk 3 0 0 0 (-1) 0 1)]), IntKind.i64.wrap (v79 + 1), v111.2, v81) : Bool × List Node × Int × Int × List (List Int)))) else ((mk_Tape_Leaf v1 v111.2 v3 v4 v96).bind fun v113 => chk ((v78.length + 1) * 56 ≤ 140737488355328) (contO ((false, (v78 ++ [(Node.mk v113.2.1 0 0 0 v113.2.2.1 v113.2.2.2.1 v113.2.2.2.2)]), IntKind.i64.wrap (v79 + 1), v113.1, v81) : Bool × List Node × Int × Int × List (List Int))))) else (mk_Tape_Tree_j4 v78 v96 v101 v81 v103 v79 v111.2))) else (mk_Tape_Tree_j4 v78 v96 v101 v81 v103 v79 v80))
noncomputable def mk_Tape_Tree_j2 (v3 : List Int) (v4 : List Row) (v96 : List Int) (v77 : Bool) (v78 : List Node) (v79 : Int) (v80 : Int) (v81 : List (List Int)) (v1 : List Int) (v101 : Int) : Option ((Bool × List Node × Int × Int × List (List Int)) ⊕ (Int × List Node)) :=
  (ref08_Dead v3 v4 v96).bind fun v102 => bif v77 then (bif decide (v102 ≥ 0) then (chk ((v78.length + 1) * 56 ≤ 140737488355328) (contO ((true, (v78 ++ [(Node.mk 2 0 0 0 v102 0 0)]), IntKind.i64.wrap (v79 + 1), v80, v81) : Bool × List Node × Int × Int × List (List Int)))) else (mk_Tape_Tree_j3 v101 v78 v79 v80 v81 v1 v3 v4 v96 true)) else (mk_Tape_Tree_j3 v101 v78 v79 v80 v81 v1 v3 v4 v96 false)
noncomputable def mk_Tape_Tree_l5 (v3 : List Int) (v96 : List Int) (v4 : List Row) (v77 : Bool) (v78 : List Node) (v79 : Int) (v80 : Int) (v81 : List (List Int)) (v1 : List Int) (v115 : Int) : Option ((Int) ⊕ ((Bool × List Node × Int × Int × List (List Int)) ⊕ (Int × List Node))) :=
  bif decide (v115 < (v3.length : Int)) then ((rd v96 v115).bind fun v117 => bif decide (v117 = (-1)) then (exitO (mk_Tape_Tree_j2 v3 v4 v96 v77 v78 v79 v80 v81 v1 v115)) else (contO (IntKind.i64.wrap (v115 + 1) : Int))) else (exitO (mk_Tape_Tree_j2 v3 v4 v96 v77 v78 v79 v80 v81 v1 (-1)))
noncomputable def mk_Tape_Tree_l1 (v3 : List Int) (v4 : List Row) (v1 : List Int) (v77 : Bool) (v78 : List Node) (v79 : Int) (v80 : Int) (v81 : List (List Int)) : Option ((Bool × List Node × Int × Int × List (List Int)) ⊕ (Int × List Node)) :=
  bif decide (v79 < (v81.length : Int)) then ((rd v81 v79).bind fun v96 => iter (fun g : Int => mk_Tape_Tree_l5 v3 v96 v4 v77 v78 v79 v80 v81 v1 g) 0) else (exitO (some ((v80, v78) : Int × List Node)))
noncomputable def mk_Tape_Tree_l0 (v3 : List Int) (v4 : List Row) (v1 : List Int) (v5 : Bool) (v2 : Int) (v63 : Int) (v64 : List Int) : Option ((Int × List Int) ⊕ (Int × List Node)) :=
  bif decide (v63 < (v3.length : Int)) then (chk ((v64.length + 1) * 8 ≤ 140737488355328) (contO ((IntKind.i64.wrap (v63 + 1), (v64 ++ [-1])) : Int × List Int))) else (exitO (iter (fun g : Bool × List Node × Int × Int × List (List Int) => mk_Tape_Tree_l1 v3 v4 v1 g.1 g.2.1 g.2.2.1 g.2.2.2.1 g.2.2.2.2) (v5, [], 0, v2, [v64])))
noncomputable def mk_Tape_Tree (v1 : List Int) (v2 : Int) (v3 : List Int) (v4 : List Row) (v5 : Bool) : Option (Int × List Node) :=
  iter (fun g : Int × List Int => mk_Tape_Tree_l0 v3 v4 v1 v5 v2 g.1 g.2) (0, [])
theorem mk_Tape_Tree_ok (v1 : List Int) (v2 : Int) (v3 : List Int) (v4 : List Row) (v5 : Bool) (r : Int × List Node) (hx : mk_Tape_Tree v1 v2 v3 v4 v5 = some r) :
    ACalls Try.prog 21 [.box 0 0, .agg [.d (.sl (List.map iD v3)), .d (.sl (List.map Row.D v4))], .d (.bool v5)] [(0, some (.box [.d (.sl (List.map iD v1)), .d (.int .i64 v2)]))] (.arr 2000 0 r.2.length) [(0, some (.box [.d (.sl (List.map iD v1)), .d (.int .i64 r.1)])), (2000, some (.arr 33 7 (List.map Node.D r.2)))] := by
  refine ACalls.of_sem (n := 123) 1 [6] (fn := Try.f21) Try.func21 rfl rfl (.one rfl) rfl (by simp) (by intro i; simp only [hget]; (repeat' split) <;> simp <;> omega) ?_
  unfold mk_Tape_Tree at hx
  refine Walk.seq (Walk.region' rfl fun K hK => ?_)
  simp only [go_sem, seval]
  refine hK _ ?_
  clear hK K
  refine Walk.seq (Walk.region' rfl fun K hK => ?_)
  simp only [go_sem, seval]
  refine hK _ ?_
  clear hK K
  refine Walk.seq (Walk.region' rfl fun K hK => ?_)
  simp only [go_sem, seval]
  refine hK _ ?_
  clear hK K
  refine Walk.weaken ⟨[(0, .box 0 0), (2, .d (.bool v5)), (4, .box 5 0), (7, .d (.int .i64 (v3.length : Int))), (8, .arr 23 0 0)], [(0, some (.box [.d (.sl (List.map iD v1)), .d (.int .i64 v2)])), (5, some (.box [.d (.sl (List.map iD v3)), .d (.sl (List.map Row.D v4))])), (23, some (.arr 3 1 (List.map iD [])))]⟩ (by simp <;> omega) (by simp <;> omega) ?_
  refine Walk.seq (Walk.seq (Walk.region' rfl fun K hK => ?_))
  simp only [go_sem, seval]
  refine hK _ ?_
  clear hK K
  refine Walk.block (Walk.loop ?_)
  refine Walk.weaken ⟨[(0, .box 0 0), (2, .d (.bool v5)), (4, .box 5 0), (7, .d (.int .i64 (v3.length : Int))), (8, .arr 23 0 0), (9, .d (.int .i64 0))], [(0, some (.box [.d (.sl (List.map iD v1)), .d (.int .i64 v2)])), (5, some (.box [.d (.sl (List.map iD v3)), .d (.sl (List.map Row.D v4))])), (23, some (.arr 3 1 (List.map iD [])))]⟩ (by simp <;> omega) (by simp <;> omega) ?_
  refine Walk.iter (σ := Int × List Int) (fun g => ⟨[(0, .box 0 0), (2, .d (.bool v5)), (4, .box 5 0), (7, .d (.int .i64 (v3.length : Int))), (8, .arr 23 0 g.2.length), (9, .d (.int .i64 g.1))], [(0, some (.box [.d (.sl (List.map iD v1)), .d (.int .i64 v2)])), (5, some (.box [.d (.sl (List.map iD v3)), .d (.sl (List.map Row.D v4))])), (23, some (.arr 3 1 (List.map iD g.2)))]⟩) (fun g : Int × List Int => mk_Tape_Tree_l0 v3 v4 v1 v5 v2 g.1 g.2) _ (fun g y476 hx ih232 hr233 => ?_) (0, []) hx
  obtain ⟨v63, v64⟩ := g
  unfold mk_Tape_Tree_l0 at hx
  try dsimp only at hx ⊢
  refine Walk.seq (Walk.seq (Walk.region' rfl fun K hK => ?_))
  simp only [go_sem, seval]
  refine hK _ ?_
  clear hK K
  refine Walk.condO rfl hx (fun c234 hx => ?_) (fun c234 hx => ?_)
  · refine Walk.skip (Walk.seq (Walk.block (Walk.region' rfl fun K hK => ?_)))
    obtain ⟨k235, hx⟩ := chk_elim hx
    simp only [go_sem, seval, c234, k235]
    repeat refine And.intro (by first | omega | (simp; done) | (simp; omega)) ?_
    refine hK _ ?_
    clear hK K
    refine Walk.weaken ⟨[(0, .box 0 0), (2, .d (.bool v5)), (4, .box 5 0), (7, .d (.int .i64 (v3.length : Int))), (8, .arr 23 0 ((v64 ++ [-1]).length)), (9, .d (.int .i64 v63))], [(0, some (.box [.d (.sl (List.map iD v1)), .d (.int .i64 v2)])), (5, some (.box [.d (.sl (List.map iD v3)), .d (.sl (List.map Row.D v4))])), (23, some (.arr 3 1 (List.map iD (v64 ++ [-1]))))]⟩ (by simp [c234, k235] <;> omega) (by simp [c234, k235] <;> omega) ?_
    refine Walk.inBlock (Walk.region' rfl fun K hK => ?_)
    simp only [go_sem, seval, c234, k235]
    refine hK _ ?_
    clear hK K
    exact Walk.weaken _ (by simp [c234, k235] <;> omega) (by simp [c234, k235] <;> omega) (ih232 _ (cont_elim hx))
  refine Walk.exit rfl ?_
  obtain ⟨z236, e237, hx⟩ := exit_elim hx
  rw [hr233 z236 e237] at hx
  refine Walk.seq (Walk.region' rfl fun K hK => ?_)
  simp only [go_sem, seval, c234]
  refine hK _ ?_
  clear hK K
  refine Walk.weaken ⟨[(0, .box 0 0), (2, .d (.bool v5)), (4, .box 5 0), (7, .d (.int .i64 (v3.length : Int))), (10, .arr 33 0 1)], [(0, some (.box [.d (.sl (List.map iD v1)), .d (.int .i64 v2)])), (5, some (.box [.d (.sl (List.map iD v3)), .d (.sl (List.map Row.D v4))])), (33, some (.arr 22 1 (List.map (lD iD) [v64])))]⟩ (by simp [c234] <;> omega) (by simp [c234] <;> omega) ?_
  refine Walk.seq (Walk.region' rfl fun K hK => ?_)
  simp only [go_sem, seval, c234]
  refine hK _ ?_
  clear hK K
  refine Walk.seq (Walk.seq (Walk.region' rfl fun K hK => ?_))
  simp only [go_sem, seval, c234]
  refine hK _ ?_
  clear hK K
  refine Walk.block (Walk.loop ?_)
  refine Walk.weaken ⟨[(0, .box 0 0), (2, .d (.bool v5)), (4, .box 5 0), (7, .d (.int .i64 (v3.length : Int))), (10, .arr 33 0 1), (11, .nils), (12, .d (.int .i64 0))], [(0, some (.box [.d (.sl (List.map iD v1)), .d (.int .i64 v2)])), (5, some (.box [.d (.sl (List.map iD v3)), .d (.sl (List.map Row.D v4))])), (33, some (.arr 22 1 (List.map (lD iD) [v64])))]⟩ (by simp [c234] <;> omega) (by simp [c234] <;> omega) ?_
  refine Walk.up 1002 33 7 [(0, .box 0 0), (2, .d (.bool v5)), (4, .box 5 0), (7, .d (.int .i64 (v3.length : Int))), (10, .arr 33 0 1), (11, .arr 1002 0 0), (12, .d (.int .i64 0))] [(0, some (.box [.d (.sl (List.map iD v1)), .d (.int .i64 v2)])), (5, some (.box [.d (.sl (List.map iD v3)), .d (.sl (List.map Row.D v4))])), (33, some (.arr 22 1 (List.map (lD iD) [v64])))] (by simp) (by simp) (by omega) (by simp) (by simp) (by simp) ?_
  refine Walk.weaken ⟨[(0, .box 0 0), (2, .d (.bool v5)), (4, .box 5 0), (7, .d (.int .i64 (v3.length : Int))), (10, .arr 33 0 1), (11, .arr 1002 0 0), (12, .d (.int .i64 0))], [(0, some (.box [.d (.sl (List.map iD v1)), .d (.int .i64 v2)])), (5, some (.box [.d (.sl (List.map iD v3)), .d (.sl (List.map Row.D v4))])), (33, some (.arr 22 1 (List.map (lD iD) [v64]))), (1002, some (.arr 33 7 (List.map Node.D [])))]⟩ (by simp [c234] <;> omega) (by simp [c234] <;> omega) ?_
  refine Walk.iter (σ := Bool × List Node × Int × Int × List (List Int)) (fun g => ⟨[(0, .box 0 0), (2, .d (.bool g.1)), (4, .box 5 0), (7, .d (.int .i64 (v3.length : Int))), (10, .arr 33 0 g.2.2.2.2.length), (11, .arr 1002 0 g.2.1.length), (12, .d (.int .i64 g.2.2.1))], [(0, some (.box [.d (.sl (List.map iD v1)), .d (.int .i64 g.2.2.2.1)])), (5, some (.box [.d (.sl (List.map iD v3)), .d (.sl (List.map Row.D v4))])), (33, some (.arr 22 1 (List.map (lD iD) g.2.2.2.2))), (1002, some (.arr 33 7 (List.map Node.D g.2.1)))]⟩) (fun g : Bool × List Node × Int × Int × List (List Int) => mk_Tape_Tree_l1 v3 v4 v1 g.1 g.2.1 g.2.2.1 g.2.2.2.1 g.2.2.2.2) _ (fun g y475 hx ih351 hr352 => ?_) (v5, [], 0, v2, [v64]) hx
  obtain ⟨v77, v78, v79, v80, v81⟩ := g
  unfold mk_Tape_Tree_l1 at hx
  try dsimp only at hx ⊢
  refine Walk.seq (Walk.seq (Walk.region' rfl fun K hK => ?_))
  simp only [go_sem, seval, c234]
  refine hK _ ?_
  clear hK K
  refine Walk.condO rfl hx (fun c355 hx => ?_) (fun c355 hx => ?_)
  · refine Walk.skip (Walk.seq (Walk.block (Walk.seq (Walk.region' rfl fun K hK => ?_))))
    obtain ⟨v96, r356, a357, b358, c359, hx⟩ := rd_elim hx
    simp only [go_sem, seval, c234, c355, a357, b358, c359]
    repeat refine And.intro (by first | omega | (simp; done) | (simp; omega)) ?_
    refine hK _ ?_
    clear hK K
    refine Walk.seq (Walk.region' rfl fun K hK => ?_)
    simp only [go_sem, seval, c234, c355, a357, b358, c359]
    refine hK _ ?_
    clear hK K
    refine Walk.seq (Walk.join (G := Int) (fun g => ⟨[(0, .box 0 0), (2, .d (.bool v77)), (4, .box 5 0), (7, .d (.int .i64 (v3.length : Int))), (10, .arr 33 0 v81.length), (11, .arr 1002 0 v78.length), (12, .d (.int .i64 v79)), (13, .d (.sl (List.map iD v96))), (14, .d (.int .i64 g))], [(0, some (.box [.d (.sl (List.map iD v1)), .d (.int .i64 v80)])), (5, some (.box [.d (.sl (List.map iD v3)), .d (.sl (List.map Row.D v4))])), (33, some (.arr 22 1 (List.map (lD iD) v81))), (1002, some (.arr 33 7 (List.map Node.D v78)))]⟩) (fun g => mk_Tape_Tree_j2 v3 v4 v96 v77 v78 v79 v80 v81 v1 g) hx (fun v101 hx => ?_) (fun fin390 => ?_))
    · unfold mk_Tape_Tree_j2 at hx
      try dsimp only at hx ⊢
      refine Walk.seq (Walk.region' rfl fun K hK => ?_)
      obtain ⟨v102, h391, hx⟩ := bind_elim hx
      simp only [go_sem, seval, c234, c355, a357, b358, c359]
      refine VCl.pure rfl (by simp only [go_sem, seval, c234, c355, a357, b358, c359]; try simp) (ref08_Dead_ok v3 v4 v96 _ h391) (by simp only [go_sem, seval, c234, c355, a357, b358, c359]; try simp) (by simp only [go_sem, seval, c234, c355, a357, b358, c359]; try simp) (by simp only [go_sem, seval, c234, c355, a357, b358, c359]; try simp) (by simp only [go_sem, seval, c234, c355, a357, b358, c359]; try simp) (by simp only [go_sem, seval, c234, c355, a357, b358, c359]; try simp) (by simp only [go_sem, seval, c234, c355, a357, b358, c359]; try simp) ?_
      simp only [go_sem, seval, c234, c355, a357, b358, c359]
      refine hK _ ?_
      clear hK K
      refine Walk.seq (Walk.join (G := Bool) (fun g => ⟨[(0, .box 0 0), (2, .d (.bool g)), (4, .box 5 0), (7, .d (.int .i64 (v3.length : Int))), (10, .arr 33 0 v81.length), (11, .arr 1002 0 v78.length), (12, .d (.int .i64 v79)), (13, .d (.sl (List.map iD v96))), (14, .d (.int .i64 v101))], [(0, some (.box [.d (.sl (List.map iD v1)), .d (.int .i64 v80)])), (5, some (.box [.d (.sl (List.map iD v3)), .d (.sl (List.map Row.D v4))])), (33, some (.arr 22 1 (List.map (lD iD) v81))), (1002, some (.arr 33 7 (List.map Node.D v78)))]⟩) (fun g => mk_Tape_Tree_j3 v101 v78 v79 v80 v81 v1 v3 v4 v96 g) hx (fun v103 hx => ?_) (fun fin395 => ?_))
      · unfold mk_Tape_Tree_j3 at hx
        try dsimp only at hx ⊢
        refine Walk.seq (Walk.join (G := Int) (fun g => ⟨[(0, .box 0 0), (2, .d (.bool v103)), (4, .box 5 0), (7, .d (.int .i64 (v3.length : Int))), (10, .arr 33 0 v81.length), (11, .arr 1002 0 v78.length), (12, .d (.int .i64 v79)), (13, .d (.sl (List.map iD v96))), (14, .d (.int .i64 v101))], [(0, some (.box [.d (.sl (List.map iD v1)), .d (.int .i64 g)])), (5, some (.box [.d (.sl (List.map iD v3)), .d (.sl (List.map Row.D v4))])), (33, some (.arr 22 1 (List.map (lD iD) v81))), (1002, some (.arr 33 7 (List.map Node.D v78)))]⟩) (fun g => mk_Tape_Tree_j4 v78 v96 v101 v81 v103 v79 g) hx (fun v108 hx => ?_) (fun fin413 => ?_))
        · unfold mk_Tape_Tree_j4 at hx
          try dsimp only at hx ⊢
          refine Walk.seq (Walk.region' rfl fun K hK => ?_)
          obtain ⟨k414, hx⟩ := chk_elim hx
          simp only [go_sem, seval, c234, c355, a357, b358, c359, k414]
          repeat refine And.intro (by first | omega | (simp; done) | (simp; omega)) ?_
          refine hK _ ?_
          clear hK K
          refine Walk.weaken ⟨[(0, .box 0 0), (2, .d (.bool v103)), (4, .box 5 0), (7, .d (.int .i64 (v3.length : Int))), (10, .arr 33 0 v81.length), (11, .arr 1002 0 (((v78 ++ [(Node.mk 1 v101 (v81.length : Int) (IntKind.i64.wrap ((v81.length : Int) + 1)) 0 0 0)])).length)), (12, .d (.int .i64 v79)), (13, .d (.sl (List.map iD v96))), (14, .d (.int .i64 v101))], [(0, some (.box [.d (.sl (List.map iD v1)), .d (.int .i64 v108)])), (5, some (.box [.d (.sl (List.map iD v3)), .d (.sl (List.map Row.D v4))])), (33, some (.arr 22 1 (List.map (lD iD) v81))), (1002, some (.arr 33 7 (List.map Node.D ((v78 ++ [(Node.mk 1 v101 (v81.length : Int) (IntKind.i64.wrap ((v81.length : Int) + 1)) 0 0 0)])))))]⟩ (by simp [c234, c355, a357, b358, c359, k414] <;> omega) (by simp [c234, c355, a357, b358, c359, k414] <;> omega) ?_
          refine Walk.seq (Walk.region' rfl fun K hK => ?_)
          simp only [go_sem, seval, c234, c355, a357, b358, c359, k414]
          refine hK _ ?_
          clear hK K
          refine Walk.seq (Walk.region' rfl fun K hK => ?_)
          obtain ⟨k415, hx⟩ := chk_elim hx
          simp only [go_sem, seval, c234, c355, a357, b358, c359, k414, k415]
          repeat refine And.intro (by first | omega | (simp; done) | (simp; omega)) ?_
          refine hK _ ?_
          clear hK K
          refine Walk.weaken ⟨[(0, .box 0 0), (2, .d (.bool v103)), (4, .box 5 0), (7, .d (.int .i64 (v3.length : Int))), (10, .arr 33 0 v81.length), (11, .arr 1002 0 (((v78 ++ [(Node.mk 1 v101 (v81.length : Int) (IntKind.i64.wrap ((v81.length : Int) + 1)) 0 0 0)])).length)), (12, .d (.int .i64 v79)), (13, .d (.sl (List.map iD v96))), (14, .d (.int .i64 v101)), (17, .arr 108 0 v96.length), (18, .nils)], [(0, some (.box [.d (.sl (List.map iD v1)), .d (.int .i64 v108)])), (5, some (.box [.d (.sl (List.map iD v3)), .d (.sl (List.map Row.D v4))])), (33, some (.arr 22 1 (List.map (lD iD) v81))), (108, some (.arr 3 1 (List.map iD v96))), (1002, some (.arr 33 7 (List.map Node.D ((v78 ++ [(Node.mk 1 v101 (v81.length : Int) (IntKind.i64.wrap ((v81.length : Int) + 1)) 0 0 0)])))))]⟩ (by simp [c234, c355, a357, b358, c359, k414, k415] <;> omega) (by simp [c234, c355, a357, b358, c359, k414, k415] <;> omega) ?_
          refine Walk.seq (Walk.region' rfl fun K hK => ?_)
          obtain ⟨k416, hx⟩ := chk_elim hx
          simp only [go_sem, seval, c234, c355, a357, b358, c359, k414, k415, k416]
          repeat refine And.intro (by first | omega | (simp; done) | (simp; omega)) ?_
          refine hK _ ?_
          clear hK K
          refine Walk.weaken ⟨[(0, .box 0 0), (2, .d (.bool v103)), (4, .box 5 0), (7, .d (.int .i64 (v3.length : Int))), (10, .arr 33 0 v81.length), (11, .arr 1002 0 (((v78 ++ [(Node.mk 1 v101 (v81.length : Int) (IntKind.i64.wrap ((v81.length : Int) + 1)) 0 0 0)])).length)), (12, .d (.int .i64 v79)), (14, .d (.int .i64 v101)), (17, .arr 108 0 v96.length), (18, .arr 111 0 v96.length)], [(0, some (.box [.d (.sl (List.map iD v1)), .d (.int .i64 v108)])), (5, some (.box [.d (.sl (List.map iD v3)), .d (.sl (List.map Row.D v4))])), (33, some (.arr 22 1 (List.map (lD iD) v81))), (108, some (.arr 3 1 (List.map iD v96))), (111, some (.arr 3 1 (List.map iD v96))), (1002, some (.arr 33 7 (List.map Node.D ((v78 ++ [(Node.mk 1 v101 (v81.length : Int) (IntKind.i64.wrap ((v81.length : Int) + 1)) 0 0 0)])))))]⟩ (by simp [c234, c355, a357, b358, c359, k414, k415, k416] <;> omega) (by simp [c234, c355, a357, b358, c359, k414, k415, k416] <;> omega) ?_
          refine Walk.seq (Walk.region' rfl fun K hK => ?_)
          obtain ⟨v109, r417, a418, b419, c420, hx⟩ := rd_elim hx
          simp only [go_sem, seval, c234, c355, a357, b358, c359, k414, k415, k416, a418, b419, c420]
          repeat refine And.intro (by first | omega | (simp; done) | (simp; omega)) ?_
          refine hK _ ?_
          clear hK K
          refine Walk.weaken ⟨[(0, .box 0 0), (2, .d (.bool v103)), (4, .box 5 0), (7, .d (.int .i64 (v3.length : Int))), (10, .arr 33 0 v81.length), (11, .arr 1002 0 (((v78 ++ [(Node.mk 1 v101 (v81.length : Int) (IntKind.i64.wrap ((v81.length : Int) + 1)) 0 0 0)])).length)), (12, .d (.int .i64 v79)), (17, .arr 108 0 (((v96.set (v101).toNat 0)).length)), (18, .arr 111 0 (((v96.set (v101).toNat 1)).length))], [(0, some (.box [.d (.sl (List.map iD v1)), .d (.int .i64 v108)])), (5, some (.box [.d (.sl (List.map iD v3)), .d (.sl (List.map Row.D v4))])), (33, some (.arr 22 1 (List.map (lD iD) v81))), (108, some (.arr 3 1 (List.map iD ((v96.set (v101).toNat 0))))), (111, some (.arr 3 1 (List.map iD ((v96.set (v101).toNat 1))))), (1002, some (.arr 33 7 (List.map Node.D ((v78 ++ [(Node.mk 1 v101 (v81.length : Int) (IntKind.i64.wrap ((v81.length : Int) + 1)) 0 0 0)])))))]⟩ (by simp [c234, c355, a357, b358, c359, k414, k415, k416, a418, b419, c420] <;> omega) (by simp [c234, c355, a357, b358, c359, k414, k415, k416, a418, b419, c420] <;> omega) ?_
          refine Walk.region' rfl fun K hK => ?_
          obtain ⟨k421, hx⟩ := chk_elim hx
          simp only [go_sem, seval, c234, c355, a357, b358, c359, k414, k415, k416, a418, b419, c420, k421]
          repeat refine And.intro (by first | omega | (simp; done) | (simp; omega)) ?_
          refine hK _ ?_
          clear hK K
          refine Walk.weaken ⟨[(0, .box 0 0), (2, .d (.bool v103)), (4, .box 5 0), (7, .d (.int .i64 (v3.length : Int))), (10, .arr 33 0 (((v81 ++ [(v96.set (v101).toNat 0), (v96.set (v101).toNat 1)])).length)), (11, .arr 1002 0 (((v78 ++ [(Node.mk 1 v101 (v81.length : Int) (IntKind.i64.wrap ((v81.length : Int) + 1)) 0 0 0)])).length)), (12, .d (.int .i64 v79))], [(0, some (.box [.d (.sl (List.map iD v1)), .d (.int .i64 v108)])), (5, some (.box [.d (.sl (List.map iD v3)), .d (.sl (List.map Row.D v4))])), (33, some (.arr 22 1 (List.map (lD iD) ((v81 ++ [(v96.set (v101).toNat 0), (v96.set (v101).toNat 1)]))))), (1002, some (.arr 33 7 (List.map Node.D ((v78 ++ [(Node.mk 1 v101 (v81.length : Int) (IntKind.i64.wrap ((v81.length : Int) + 1)) 0 0 0)])))))]⟩ (by simp [c234, c355, a357, b358, c359, k414, k415, k416, a418, b419, c420, k421] <;> omega) (by simp [c234, c355, a357, b358, c359, k414, k415, k416, a418, b419, c420, k421] <;> omega) ?_
          refine Walk.inBlock (Walk.region' rfl fun K hK => ?_)
          simp only [go_sem, seval, c234, c355, a357, b358, c359, k414, k415, k416, a418, b419, c420, k421]
          refine hK _ ?_
          clear hK K
          exact Walk.weaken _ (by simp [c234, c355, a357, b358, c359, k414, k415, k416, a418, b419, c420, k421] <;> omega) (by simp [c234, c355, a357, b358, c359, k414, k415, k416, a418, b419, c420, k421] <;> omega) (ih351 _ (cont_elim hx))
        refine Walk.seq (Walk.region' rfl fun K hK => ?_)
        simp only [go_sem, seval, c234, c355, a357, b358, c359]
        refine VGdO hx (fun g422 hx => ?_) (fun g422 hx => ?_)
        · simp only [go_sem, seval, c234, c355, a357, b358, c359, g422]
          refine hK _ ?_
          clear hK K
          refine Walk.condT rfl (Walk.seq (Walk.seq (Walk.region' rfl fun K hK => ?_)))
          simp only [go_sem, seval, c234, c355, a357, b358, c359, g422]
          refine hK _ ?_
          clear hK K
          refine Walk.condO rfl hx (fun c423 hx => ?_) (fun c423 hx => ?_)
          · refine Walk.region' rfl fun K hK => ?_
            obtain ⟨k424, hx⟩ := chk_elim hx
            simp only [go_sem, seval, c234, c355, a357, b358, c359, g422, c423, k424]
            repeat refine And.intro (by first | omega | (simp; done) | (simp; omega)) ?_
            refine hK _ ?_
            clear hK K
            refine Walk.weaken ⟨[(0, .box 0 0), (2, .d (.bool true)), (4, .box 5 0), (7, .d (.int .i64 (v3.length : Int))), (10, .arr 33 0 v81.length), (11, .arr 1002 0 (((v78 ++ [(Node.mk 3 0 0 0 (-1) 0 1)])).length)), (12, .d (.int .i64 v79))], [(0, some (.box [.d (.sl (List.map iD v1)), .d (.int .i64 v80)])), (5, some (.box [.d (.sl (List.map iD v3)), .d (.sl (List.map Row.D v4))])), (33, some (.arr 22 1 (List.map (lD iD) v81))), (1002, some (.arr 33 7 (List.map Node.D ((v78 ++ [(Node.mk 3 0 0 0 (-1) 0 1)])))))]⟩ (by simp [c234, c355, a357, b358, c359, g422, c423, k424] <;> omega) (by simp [c234, c355, a357, b358, c359, g422, c423, k424] <;> omega) ?_
            refine Walk.exit rfl (Walk.region' rfl fun K hK => ?_)
            simp only [go_sem, seval, c234, c355, a357, b358, c359, g422, c423, k424]
            refine hK _ ?_
            clear hK K
            exact Walk.weaken _ (by simp [c234, c355, a357, b358, c359, g422, c423, k424] <;> omega) (by simp [c234, c355, a357, b358, c359, g422, c423, k424] <;> omega) (ih351 _ (cont_elim hx))
          refine Walk.region' rfl fun K hK => ?_
          obtain ⟨v110, h425, hx⟩ := bind_elim hx
          simp only [go_sem, seval, c234, c355, a357, b358, c359, g422, c423]
          refine VCl.sub [(0, some (.box [.d (.sl (List.map iD v1)), .d (.int .i64 v80)]))] [] rfl (by simp only [go_sem, seval, AV.viewXs, AV.viewX, avD, c234, c355, a357, b358, c359, g422, c423]; try simp) (mk_Tape_Leaf_ok v1 v80 v3 v4 v96 _ h425) (by simp [c234, c355, a357, b358, c359, g422, c423]) (by simp [c234, c355, a357, b358, c359, g422, c423]) (by simp [c234, c355, a357, b358, c359, g422, c423]) (by simp [c234, c355, a357, b358, c359, g422, c423]) (by simp [c234, c355, a357, b358, c359, g422, c423]) (by simp [c234, c355, a357, b358, c359, g422, c423]) (by simp [c234, c355, a357, b358, c359, g422, c423]) (by simp [c234, c355, a357, b358, c359, g422, c423]) (by simp [c234, c355, a357, b358, c359, g422, c423]) (by simp [c234, c355, a357, b358, c359, g422, c423]) ?_
          obtain ⟨k426, hx⟩ := chk_elim hx
          simp only [go_sem, seval, c234, c355, a357, b358, c359, g422, c423, k426]
          repeat refine And.intro (by first | omega | (simp; done) | (simp; omega)) ?_
          refine hK _ ?_
          clear hK K
          refine Walk.weaken ⟨[(0, .box 0 0), (2, .d (.bool false)), (4, .box 5 0), (7, .d (.int .i64 (v3.length : Int))), (10, .arr 33 0 v81.length), (11, .arr 1002 0 (((v78 ++ [(Node.mk v110.2.1 0 0 0 v110.2.2.1 v110.2.2.2.1 v110.2.2.2.2)])).length)), (12, .d (.int .i64 v79))], [(0, some (.box [.d (.sl (List.map iD v1)), .d (.int .i64 v110.1)])), (5, some (.box [.d (.sl (List.map iD v3)), .d (.sl (List.map Row.D v4))])), (33, some (.arr 22 1 (List.map (lD iD) v81))), (1002, some (.arr 33 7 (List.map Node.D ((v78 ++ [(Node.mk v110.2.1 0 0 0 v110.2.2.1 v110.2.2.2.1 v110.2.2.2.2)])))))]⟩ (by simp [c234, c355, a357, b358, c359, g422, c423, k426] <;> omega) (by simp [c234, c355, a357, b358, c359, g422, c423, k426] <;> omega) ?_
          refine Walk.exit rfl (Walk.region' rfl fun K hK => ?_)
          simp only [go_sem, seval, c234, c355, a357, b358, c359, g422, c423, k426]
          refine hK _ ?_
          clear hK K
          exact Walk.weaken _ (by simp [c234, c355, a357, b358, c359, g422, c423, k426] <;> omega) (by simp [c234, c355, a357, b358, c359, g422, c423, k426] <;> omega) (ih351 _ (cont_elim hx))
        simp only [go_sem, seval, c234, c355, a357, b358, c359, g422]
        refine VGdO hx (fun g427 hx => ?_) (fun g427 hx => ?_)
        · obtain ⟨v111, h428, hx⟩ := bind_elim hx
          simp only [go_sem, seval, c234, c355, a357, b358, c359, g422, g427]
          refine VCl.sub [(0, some (.box [.d (.sl (List.map iD v1)), .d (.int .i64 v80)]))] [] rfl (by simp only [go_sem, seval, AV.viewXs, AV.viewX, avD, c234, c355, a357, b358, c359, g422, g427]; try simp) (mk_Tape_Next_ok v1 v80 2 _ h428) (by simp [c234, c355, a357, b358, c359, g422, g427]) (by simp [c234, c355, a357, b358, c359, g422, g427]) (by simp [c234, c355, a357, b358, c359, g422, g427]) (by simp [c234, c355, a357, b358, c359, g422, g427]) (by simp [c234, c355, a357, b358, c359, g422, g427]) (by simp [c234, c355, a357, b358, c359, g422, g427]) (by simp [c234, c355, a357, b358, c359, g422, g427]) (by simp [c234, c355, a357, b358, c359, g422, g427]) (by simp [c234, c355, a357, b358, c359, g422, g427]) (by simp [c234, c355, a357, b358, c359, g422, g427]) ?_
          simp only [go_sem, seval, c234, c355, a357, b358, c359, g422, g427]
          refine VGdO hx (fun g429 hx => ?_) (fun g429 hx => ?_)
          · simp only [go_sem, seval, c234, c355, a357, b358, c359, g422, g427, g429]
            refine hK _ ?_
            clear hK K
            refine Walk.weaken ⟨[(0, .box 0 0), (2, .d (.bool v103)), (4, .box 5 0), (7, .d (.int .i64 (v3.length : Int))), (10, .arr 33 0 v81.length), (11, .arr 1002 0 v78.length), (12, .d (.int .i64 v79)), (13, .d (.sl (List.map iD v96))), (14, .d (.int .i64 v101)), (82, .d (.bool true))], [(0, some (.box [.d (.sl (List.map iD v1)), .d (.int .i64 v111.2)])), (5, some (.box [.d (.sl (List.map iD v3)), .d (.sl (List.map Row.D v4))])), (33, some (.arr 22 1 (List.map (lD iD) v81))), (1002, some (.arr 33 7 (List.map Node.D v78)))]⟩ (by simp [c234, c355, a357, b358, c359, g422, g427, g429] <;> omega) (by simp [c234, c355, a357, b358, c359, g422, g427, g429] <;> omega) ?_
            refine Walk.condT rfl (Walk.seq (Walk.seq (Walk.region' rfl fun K hK => ?_)))
            simp only [go_sem, seval, c234, c355, a357, b358, c359, g422, g427, g429]
            refine hK _ ?_
            clear hK K
            refine Walk.condO rfl hx (fun c430 hx => ?_) (fun c430 hx => ?_)
            · refine Walk.region' rfl fun K hK => ?_
              obtain ⟨k431, hx⟩ := chk_elim hx
              simp only [go_sem, seval, c234, c355, a357, b358, c359, g422, g427, g429, c430, k431]
              repeat refine And.intro (by first | omega | (simp; done) | (simp; omega)) ?_
              refine hK _ ?_
              clear hK K
              refine Walk.weaken ⟨[(0, .box 0 0), (2, .d (.bool true)), (4, .box 5 0), (7, .d (.int .i64 (v3.length : Int))), (10, .arr 33 0 v81.length), (11, .arr 1002 0 (((v78 ++ [(Node.mk 3 0 0 0 (-1) 0 1)])).length)), (12, .d (.int .i64 v79))], [(0, some (.box [.d (.sl (List.map iD v1)), .d (.int .i64 v111.2)])), (5, some (.box [.d (.sl (List.map iD v3)), .d (.sl (List.map Row.D v4))])), (33, some (.arr 22 1 (List.map (lD iD) v81))), (1002, some (.arr 33 7 (List.map Node.D ((v78 ++ [(Node.mk 3 0 0 0 (-1) 0 1)])))))]⟩ (by simp [c234, c355, a357, b358, c359, g422, g427, g429, c430, k431] <;> omega) (by simp [c234, c355, a357, b358, c359, g422, g427, g429, c430, k431] <;> omega) ?_
              refine Walk.exit rfl (Walk.region' rfl fun K hK => ?_)
              simp only [go_sem, seval, c234, c355, a357, b358, c359, g422, g427, g429, c430, k431]
              refine hK _ ?_
              clear hK K
              exact Walk.weaken _ (by simp [c234, c355, a357, b358, c359, g422, g427, g429, c430, k431] <;> omega) (by simp [c234, c355, a357, b358, c359, g422, g427, g429, c430, k431] <;> omega) (ih351 _ (cont_elim hx))
            refine Walk.region' rfl fun K hK => ?_
            obtain ⟨v112, h432, hx⟩ := bind_elim hx
            simp only [go_sem, seval, c234, c355, a357, b358, c359, g422, g427, g429, c430]
            refine VCl.sub [(0, some (.box [.d (.sl (List.map iD v1)), .d (.int .i64 v111.2)]))] [] rfl (by simp only [go_sem, seval, AV.viewXs, AV.viewX, avD, c234, c355, a357, b358, c359, g422, g427, g429, c430]; try simp) (mk_Tape_Leaf_ok v1 v111.2 v3 v4 v96 _ h432) (by simp [c234, c355, a357, b358, c359, g422, g427, g429, c430]) (by simp [c234, c355, a357, b358, c359, g422, g427, g429, c430]) (by simp [c234, c355, a357, b358, c359, g422, g427, g429, c430]) (by simp [c234, c355, a357, b358, c359, g422, g427, g429, c430]) (by simp [c234, c355, a357, b358, c359, g422, g427, g429, c430]) (by simp [c234, c355, a357, b358, c359, g422, g427, g429, c430]) (by simp [c234, c355, a357, b358, c359, g422, g427, g429, c430]) (by simp [c234, c355, a357, b358, c359, g422, g427, g429, c430]) (by simp [c234, c355, a357, b358, c359, g422, g427, g429, c430]) (by simp [c234, c355, a357, b358, c359, g422, g427, g429, c430]) ?_
            obtain ⟨k433, hx⟩ := chk_elim hx
            simp only [go_sem, seval, c234, c355, a357, b358, c359, g422, g427, g429, c430, k433]
            repeat refine And.intro (by first | omega | (simp; done) | (simp; omega)) ?_
            refine hK _ ?_
            clear hK K
            refine Walk.weaken ⟨[(0, .box 0 0), (2, .d (.bool false)), (4, .box 5 0), (7, .d (.int .i64 (v3.length : Int))), (10, .arr 33 0 v81.length), (11, .arr 1002 0 (((v78 ++ [(Node.mk v112.2.1 0 0 0 v112.2.2.1 v112.2.2.2.1 v112.2.2.2.2)])).length)), (12, .d (.int .i64 v79))], [(0, some (.box [.d (.sl (List.map iD v1)), .d (.int .i64 v112.1)])), (5, some (.box [.d (.sl (List.map iD v3)), .d (.sl (List.map Row.D v4))])), (33, some (.arr 22 1 (List.map (lD iD) v81))), (1002, some (.arr 33 7 (List.map Node.D ((v78 ++ [(Node.mk v112.2.1 0 0 0 v112.2.2.1 v112.2.2.2.1 v112.2.2.2.2)])))))]⟩ (by simp [c234, c355, a357, b358, c359, g422, g427, g429, c430, k433] <;> omega) (by simp [c234, c355, a357, b358, c359, g422, g427, g429, c430, k433] <;> omega) ?_
            refine Walk.exit rfl (Walk.region' rfl fun K hK => ?_)
            simp only [go_sem, seval, c234, c355, a357, b358, c359, g422, g427, g429, c430, k433]
            refine hK _ ?_
            clear hK K
            exact Walk.weaken _ (by simp [c234, c355, a357, b358, c359, g422, g427, g429, c430, k433] <;> omega) (by simp [c234, c355, a357, b358, c359, g422, g427, g429, c430, k433] <;> omega) (ih351 _ (cont_elim hx))
          simp only [go_sem, seval, c234, c355, a357, b358, c359, g422, g427, g429]
          refine hK _ ?_
          clear hK K
          refine Walk.weaken ⟨[(0, .box 0 0), (2, .d (.bool v103)), (4, .box 5 0), (7, .d (.int .i64 (v3.length : Int))), (10, .arr 33 0 v81.length), (11, .arr 1002 0 v78.length), (12, .d (.int .i64 v79)), (13, .d (.sl (List.map iD v96))), (14, .d (.int .i64 v101)), (82, .d (.bool (decide ((v81.length : Int) > 40))))], [(0, some (.box [.d (.sl (List.map iD v1)), .d (.int .i64 v111.2)])), (5, some (.box [.d (.sl (List.map iD v3)), .d (.sl (List.map Row.D v4))])), (33, some (.arr 22 1 (List.map (lD iD) v81))), (1002, some (.arr 33 7 (List.map Node.D v78)))]⟩ (by simp [c234, c355, a357, b358, c359, g422, g427, g429] <;> omega) (by simp [c234, c355, a357, b358, c359, g422, g427, g429] <;> omega) ?_
          refine Walk.condO rfl hx (fun c434 hx => ?_) (fun c434 hx => ?_)
          · refine Walk.seq (Walk.seq (Walk.region' rfl fun K hK => ?_))
            simp only [go_sem, seval, c234, c355, a357, b358, c359, g422, g427, g429, c434]
            refine hK _ ?_
            clear hK K
            refine Walk.condO rfl hx (fun c435 hx => ?_) (fun c435 hx => ?_)
            · refine Walk.region' rfl fun K hK => ?_
              obtain ⟨k436, hx⟩ := chk_elim hx
              simp only [go_sem, seval, c234, c355, a357, b358, c359, g422, g427, g429, c434, c435, k436]
              repeat refine And.intro (by first | omega | (simp; done) | (simp; omega)) ?_
              refine hK _ ?_
              clear hK K
              refine Walk.weaken ⟨[(0, .box 0 0), (2, .d (.bool true)), (4, .box 5 0), (7, .d (.int .i64 (v3.length : Int))), (10, .arr 33 0 v81.length), (11, .arr 1002 0 (((v78 ++ [(Node.mk 3 0 0 0 (-1) 0 1)])).length)), (12, .d (.int .i64 v79))], [(0, some (.box [.d (.sl (List.map iD v1)), .d (.int .i64 v111.2)])), (5, some (.box [.d (.sl (List.map iD v3)), .d (.sl (List.map Row.D v4))])), (33, some (.arr 22 1 (List.map (lD iD) v81))), (1002, some (.arr 33 7 (List.map Node.D ((v78 ++ [(Node.mk 3 0 0 0 (-1) 0 1)])))))]⟩ (by simp [c234, c355, a357, b358, c359, g422, g427, g429, c434, c435, k436] <;> omega) (by simp [c234, c355, a357, b358, c359, g422, g427, g429, c434, c435, k436] <;> omega) ?_
              refine Walk.exit rfl (Walk.region' rfl fun K hK => ?_)
              simp only [go_sem, seval, c234, c355, a357, b358, c359, g422, g427, g429, c434, c435, k436]
              refine hK _ ?_
              clear hK K
              exact Walk.weaken _ (by simp [c234, c355, a357, b358, c359, g422, g427, g429, c434, c435, k436] <;> omega) (by simp [c234, c355, a357, b358, c359, g422, g427, g429, c434, c435, k436] <;> omega) (ih351 _ (cont_elim hx))
            refine Walk.region' rfl fun K hK => ?_
            obtain ⟨v113, h437, hx⟩ := bind_elim hx
            simp only [go_sem, seval, c234, c355, a357, b358, c359, g422, g427, g429, c434, c435]
            refine VCl.sub [(0, some (.box [.d (.sl (List.map iD v1)), .d (.int .i64 v111.2)]))] [] rfl (by simp only [go_sem, seval, AV.viewXs, AV.viewX, avD, c234, c355, a357, b358, c359, g422, g427, g429, c434, c435]; try simp) (mk_Tape_Leaf_ok v1 v111.2 v3 v4 v96 _ h437) (by simp [c234, c355, a357, b358, c359, g422, g427, g429, c434, c435]) (by simp [c234, c355, a357, b358, c359, g422, g427, g429, c434, c435]) (by simp [c234, c355, a357, b358, c359, g422, g427, g429, c434, c435]) (by simp [c234, c355, a357, b358, c359, g422, g427, g429, c434, c435]) (by simp [c234, c355, a357, b358, c359, g422, g427, g429, c434, c435]) (by simp [c234, c355, a357, b358, c359, g422, g427, g429, c434, c435]) (by simp [c234, c355, a357, b358, c359, g422, g427, g429, c434, c435]) (by simp [c234, c355, a357, b358, c359, g422, g427, g429, c434, c435]) (by simp [c234, c355, a357, b358, c359, g422, g427, g429, c434, c435]) (by simp [c234, c355, a357, b358, c359, g422, g427, g429, c434, c435]) ?_
            obtain ⟨k438, hx⟩ := chk_elim hx
            simp only [go_sem, seval, c234, c355, a357, b358, c359, g422, g427, g429, c434, c435, k438]
            repeat refine And.intro (by first | omega | (simp; done) | (simp; omega)) ?_
            refine hK _ ?_
            clear hK K
            refine Walk.weaken ⟨[(0, .box 0 0), (2, .d (.bool false)), (4, .box 5 0), (7, .d (.int .i64 (v3.length : Int))), (10, .arr 33 0 v81.length), (11, .arr 1002 0 (((v78 ++ [(Node.mk v113.2.1 0 0 0 v113.2.2.1 v113.2.2.2.1 v113.2.2.2.2)])).length)), (12, .d (.int .i64 v79))], [(0, some (.box [.d (.sl (List.map iD v1)), .d (.int .i64 v113.1)])), (5, some (.box [.d (.sl (List.map iD v3)), .d (.sl (List.map Row.D v4))])), (33, some (.arr 22 1 (List.map (lD iD) v81))), (1002, some (.arr 33 7 (List.map Node.D ((v78 ++ [(Node.mk v113.2.1 0 0 0 v113.2.2.1 v113.2.2.2.1 v113.2.2.2.2)])))))]⟩ (by simp [c234, c355, a357, b358, c359, g422, g427, g429, c434, c435, k438] <;> omega) (by simp [c234, c355, a357, b358, c359, g422, g427, g429, c434, c435, k438] <;> omega) ?_
            refine Walk.exit rfl (Walk.region' rfl fun K hK => ?_)
            simp only [go_sem, seval, c234, c355, a357, b358, c359, g422, g427, g429, c434, c435, k438]
            refine hK _ ?_
            clear hK K
            exact Walk.weaken _ (by simp [c234, c355, a357, b358, c359, g422, g427, g429, c434, c435, k438] <;> omega) (by simp [c234, c355, a357, b358, c359, g422, g427, g429, c434, c435, k438] <;> omega) (ih351 _ (cont_elim hx))
          refine Walk.skip ?_
          exact Walk.weaken _ (by simp [c234, c355, a357, b358, c359, g422, g427, g429, c434] <;> omega) (by simp [c234, c355, a357, b358, c359, g422, g427, g429, c434] <;> omega) (fin413 v111.2 hx)
        simp only [go_sem, seval, c234, c355, a357, b358, c359, g422, g427]
        refine hK _ ?_
        clear hK K
        refine Walk.condF rfl (Walk.skip ?_)
        exact Walk.weaken _ (by simp [c234, c355, a357, b358, c359, g422, g427] <;> omega) (by simp [c234, c355, a357, b358, c359, g422, g427] <;> omega) (fin413 v80 hx)
      refine Walk.seq (Walk.region' rfl fun K hK => ?_)
      simp only [go_sem, seval, c234, c355, a357, b358, c359]
      refine VGdO hx (fun g439 hx => ?_) (fun g439 hx => ?_)
      · simp only [go_sem, seval, c234, c355, a357, b358, c359, g439]
        refine hK _ ?_
        clear hK K
        refine Walk.condO rfl hx (fun c440 hx => ?_) (fun c440 hx => ?_)
        · refine Walk.seq (Walk.region' rfl fun K hK => ?_)
          obtain ⟨k441, hx⟩ := chk_elim hx
          simp only [go_sem, seval, c234, c355, a357, b358, c359, g439, c440, k441]
          repeat refine And.intro (by first | omega | (simp; done) | (simp; omega)) ?_
          refine hK _ ?_
          clear hK K
          refine Walk.weaken ⟨[(0, .box 0 0), (2, .d (.bool true)), (4, .box 5 0), (7, .d (.int .i64 (v3.length : Int))), (10, .arr 33 0 v81.length), (11, .arr 1002 0 (((v78 ++ [(Node.mk 2 0 0 0 v102 0 0)])).length)), (12, .d (.int .i64 v79))], [(0, some (.box [.d (.sl (List.map iD v1)), .d (.int .i64 v80)])), (5, some (.box [.d (.sl (List.map iD v3)), .d (.sl (List.map Row.D v4))])), (33, some (.arr 22 1 (List.map (lD iD) v81))), (1002, some (.arr 33 7 (List.map Node.D ((v78 ++ [(Node.mk 2 0 0 0 v102 0 0)])))))]⟩ (by simp [c234, c355, a357, b358, c359, g439, c440, k441] <;> omega) (by simp [c234, c355, a357, b358, c359, g439, c440, k441] <;> omega) ?_
          refine Walk.exit rfl (Walk.region' rfl fun K hK => ?_)
          simp only [go_sem, seval, c234, c355, a357, b358, c359, g439, c440, k441]
          refine hK _ ?_
          clear hK K
          exact Walk.weaken _ (by simp [c234, c355, a357, b358, c359, g439, c440, k441] <;> omega) (by simp [c234, c355, a357, b358, c359, g439, c440, k441] <;> omega) (ih351 _ (cont_elim hx))
        refine Walk.skip ?_
        exact Walk.weaken _ (by simp [c234, c355, a357, b358, c359, g439, c440] <;> omega) (by simp [c234, c355, a357, b358, c359, g439, c440] <;> omega) (fin395 true hx)
      simp only [go_sem, seval, c234, c355, a357, b358, c359, g439]
      refine hK _ ?_
      clear hK K
      refine Walk.condF rfl (Walk.skip ?_)
      exact Walk.weaken _ (by simp [c234, c355, a357, b358, c359, g439] <;> omega) (by simp [c234, c355, a357, b358, c359, g439] <;> omega) (fin395 false hx)
    refine Walk.seq (Walk.region' rfl fun K hK => ?_)
    simp only [go_sem, seval, c234, c355, a357, b358, c359]
    refine hK _ ?_
    clear hK K
    refine Walk.block (Walk.loop ?_)
    refine Walk.weaken ⟨[(0, .box 0 0), (2, .d (.bool v77)), (4, .box 5 0), (7, .d (.int .i64 (v3.length : Int))), (10, .arr 33 0 v81.length), (11, .arr 1002 0 v78.length), (12, .d (.int .i64 v79)), (13, .d (.sl (List.map iD v96))), (14, .d (.int .i64 (-1))), (15, .d (.int .i64 0))], [(0, some (.box [.d (.sl (List.map iD v1)), .d (.int .i64 v80)])), (5, some (.box [.d (.sl (List.map iD v3)), .d (.sl (List.map Row.D v4))])), (33, some (.arr 22 1 (List.map (lD iD) v81))), (1002, some (.arr 33 7 (List.map Node.D v78)))]⟩ (by simp [c234, c355, a357, b358, c359] <;> omega) (by simp [c234, c355, a357, b358, c359] <;> omega) ?_
    refine Walk.iter (σ := Int) (fun g => ⟨[(0, .box 0 0), (2, .d (.bool v77)), (4, .box 5 0), (7, .d (.int .i64 (v3.length : Int))), (10, .arr 33 0 v81.length), (11, .arr 1002 0 v78.length), (12, .d (.int .i64 v79)), (13, .d (.sl (List.map iD v96))), (14, .d (.int .i64 (-1))), (15, .d (.int .i64 g))], [(0, some (.box [.d (.sl (List.map iD v1)), .d (.int .i64 v80)])), (5, some (.box [.d (.sl (List.map iD v3)), .d (.sl (List.map Row.D v4))])), (33, some (.arr 22 1 (List.map (lD iD) v81))), (1002, some (.arr 33 7 (List.map Node.D v78)))]⟩) (fun g : Int => mk_Tape_Tree_l5 v3 v96 v4 v77 v78 v79 v80 v81 v1 g) _ (fun v115 y472 hx ih458 hr459 => ?_) 0 hx
    unfold mk_Tape_Tree_l5 at hx
    try dsimp only at hx ⊢
    refine Walk.seq (Walk.seq (Walk.region' rfl fun K hK => ?_))
    simp only [go_sem, seval, c234, c355, a357, b358, c359]
    refine hK _ ?_
    clear hK K
    refine Walk.condO rfl hx (fun c462 hx => ?_) (fun c462 hx => ?_)
    · refine Walk.skip (Walk.seq (Walk.block (Walk.seq (Walk.region' rfl fun K hK => ?_))))
      obtain ⟨v117, r463, a464, b465, c466, hx⟩ := rd_elim hx
      simp only [go_sem, seval, c234, c355, a357, b358, c359, c462, a464, b465, c466]
      repeat refine And.intro (by first | omega | (simp; done) | (simp; omega)) ?_
      refine hK _ ?_
      clear hK K
      refine Walk.condO rfl hx (fun c467 hx => ?_) (fun c467 hx => ?_)
      · refine Walk.seq (Walk.region' rfl fun K hK => ?_)
        simp only [go_sem, seval, c234, c355, a357, b358, c359, c462, a464, b465, c466, c467]
        refine hK _ ?_
        clear hK K
        refine Walk.exit rfl ?_
        obtain ⟨z468, e469, hx⟩ := exit_elim hx
        rw [hr459 z468 e469] at hx
        exact Walk.weaken _ (by simp [c234, c355, a357, b358, c359, c462, a464, b465, c466, c467] <;> omega) (by simp [c234, c355, a357, b358, c359, c462, a464, b465, c466, c467] <;> omega) (fin390 v115 hx)
      refine Walk.skip (Walk.inBlock (Walk.region' rfl fun K hK => ?_))
      simp only [go_sem, seval, c234, c355, a357, b358, c359, c462, a464, b465, c466, c467]
      refine hK _ ?_
      clear hK K
      exact Walk.weaken _ (by simp [c234, c355, a357, b358, c359, c462, a464, b465, c466, c467] <;> omega) (by simp [c234, c355, a357, b358, c359, c462, a464, b465, c466, c467] <;> omega) (ih458 _ (cont_elim hx))
    refine Walk.exit rfl ?_
    obtain ⟨z470, e471, hx⟩ := exit_elim hx
    rw [hr459 z470 e471] at hx
    exact Walk.weaken _ (by simp [c234, c355, a357, b358, c359, c462] <;> omega) (by simp [c234, c355, a357, b358, c359, c462] <;> omega) (fin390 (-1) hx)
  refine Walk.exit rfl ?_
  obtain ⟨z473, e474, hx⟩ := exit_elim hx
  rw [hr352 z473 e474] at hx
  refine Walk.seq (Walk.region' rfl fun K hK => ?_)
  simp only [go_sem, seval, c234, c355]
  refine hK _ ?_
  clear hK K
  refine Walk.weaken ⟨[(6, .arr 1002 0 v78.length)], [(0, some (.box [.d (.sl (List.map iD v1)), .d (.int .i64 v80)])), (1002, some (.arr 33 7 (List.map Node.D v78)))]⟩ (by simp [c234, c355] <;> omega) (by simp [c234, c355] <;> omega) ?_
  refine Walk.rename 1002 2000 (by omega) (by omega) (by simp) (by simp) ?_
  simp only [renE, renL, AV.ren, AV.rens, AObj.ren, swp, Option.map_some, reduceIte, Nat.reduceEqDiff]
  obtain rfl := Option.some.inj hx
  exact Walk.ret ⟨by simp [c234, c355], by simp [c234, c355]⟩
end Go.AX

