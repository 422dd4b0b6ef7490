import Derived.Test.YtccoondkihlgfaaE1
set_option linter.unusedVariables false
set_option linter.unusedSimpArgs false
set_option maxRecDepth 20000
set_option maxHeartbeats 4000000
namespace Go.AX
open Go.Proofs
attribute [local simp] spl_len take_snoc take_cons_drop cons_rep cons_tail iA bA take_set_len idsL_rep idsL_iA idsL_bA idsL_sA idsL_set_mem idsL_sub sA_def List.map_replicate frVs_setS frVs_self frV_arr take_map_len subE subH eget hget upE upV upH upO_refl upO_box upVs freshE freshH freshO AV.ids AV.idsL ids_box ids_arr frE frV_refl frV_arr frH frO_refl frO_box frVs newOk evalA AV.viewXs AV.viewX AV.viewXP AV.viewXPs AV.viewPs AV.viewP AV.flat AV.flatL D.flat arrsOnly flatObjs newNames subOf closedIn allSome dstOk newOrOld avD avDp zv_i64 zv_u8 zv_bool zv_nils zv_nilp zv_str retAV aLoad cut TI.isAgg nlE nlH nlO_refl nlO_box nlVs nlV_refl nlV_nil iD uD bD tD lD List.map_set ti2 ti3 ti4 ti5 ti6 ti7 ti8 ti9 ti10 ti11 ti12 ti13 ti14 ti15 ti16 ti17 ti18 ti19 ti21 ti22 ti23 ti25 ti26 ti27 ti32 ti33 ti34 ti41 ti42 ti50 ti51 ti56 ti60 ti61 ti63 ti64 ti74 ti76 ti89 ti92 ti96 ti97 ti98 ti99 ti100 ti101 ti102 ti104 ti105 ti106 ti107 ti108 Row.D Node.D
attribute [local go_sem] V1_none V1_some V_nil V_move V_assign V_pick V_bin V_un V_extract V_makeFunc V_convert V_nilCheck V_fieldAddr V_field V_load V_store V_indexAddr V_index V_slice V_slice0 V_alloc V_box V_build V_buildSlice V_makeSlice V_len V_min V_max V_append V_copy V_call V_guard VGs_some VG_tt VG_ff VG_tf VG_ft VG_u gslot ok fail po so aNew dstOk freshU addLog_none' addLog_some' St.step putL evalA eget hget argE freshE freshO freshH AV.ids AV.idsL AV.ok1 AV.cells ids_box ids_arr liveBox liveArr isArr isObj isBoxB aPick isNilC aNilEq aBin aUn aExtract aMakeFunc aConvert aNilCheck aFieldAddr aField cut aLen aIndexAddr aMin aMax aIndex bnd isInt aSlice aSlice0 aLoad aAlloc aBox aStore splice aMake aMakeBox aCopy cellsOf cellsOfP updIds newIds zv_i64 zv_u8 zv_bool zv_nils zv_nilp cond_bool cond_int TI.isAgg TK.isSl TK.el okL avDps avDp avD List.map_cons List.map_nil List.append_nil List.nil_append List.cons_append List.length_cons List.length_nil List.take_succ_cons List.take_zero List.drop_succ_cons List.drop_zero List.take_nil List.drop_nil List.headD_cons List.getD_cons_zero List.getD_cons_succ List.mem_cons List.not_mem_nil List.getElem?_cons_zero List.getElem?_cons_succ List.toList_toArray Option.getD_some Option.getD_none Option.bind_some Option.bind_none Option.map_some Option.map_none Option.getD Option.toList Nat.zero_add Nat.add_zero Nat.zero_le Nat.le_refl if_true if_false ite_self true_and and_true false_and and_false true_or or_true false_or or_false not_true_eq_false not_false_eq_true ne_eq cond_true cond_false Bool.true_eq_false Bool.false_eq_true forall_const decide_true decide_false implies_true true_implies and_self or_self Nat.succ_ne_zero Int.toNat_natCast Int.natCast_nonneg List.length_map decide_eq_true_eq AV.views AV.view AV.viewPs AV.viewP arrsOnly newNames List.length_append List.append_assoc Bool.not_true Bool.not_false AV.ok2 aBuild fillR fillP aBuildSlice dense elP aAppend esOf esOfP List.forall_mem_cons forall_eq_or_imp forall_eq zD zDp map_take' map_drop' iD uD bD tD lD iD_len uD_len bD_len tD_len lD_len LB Int.cast_ofNat_Int Int.natCast_zero Int.natCast_one head_len all_len List.head?_cons List.head?_nil Bool.not_not eq_self List.take_length zv_str aConv byteOf isByte map_bcell bytes_all str_map cellsEq cellsP AV.kd Bool.and_true Bool.true_and Bool.and_false Bool.false_and spl_map spl_len mkbox_i mkbox_b flat_iD dataL_iA dataL_bA zv_u64 flat_iD' flat_len dataL_tA dataL_ttA spl_mt spl_mtt mkbox_s splice_one take_cons_drop cons_rep cons_tail hd_set hd_set0 List.length_replicate iA bA sA_def List.set_set List.length_set idsL_iA idsL_bA idsL_sA idsL_setE idsL_rep List.append_eq Nat.mul_one ti2 ti3 ti4 ti5 ti6 ti7 ti8 ti9 ti10 ti11 ti12 ti13 ti14 ti15 ti16 ti17 ti18 ti19 ti21 ti22 ti23 ti25 ti26 ti27 ti32 ti33 ti34 ti41 ti42 ti50 ti51 ti56 ti60 ti61 ti63 ti64 ti74 ti76 ti89 ti92 ti96 ti97 ti98 ti99 ti100 ti101 ti102 ti104 ti105 ti106 ti107 ti108 Row.D Node.D Row.D_len Node.D_len
noncomputable def mk_Tape_State_l0 (v3 : Int) (v1 : List Int) (v13 : List Int) (v14 : Int) (v15 : Int) : Option ((List Int × Int × Int) ⊕ (Int × List Int)) :=
  bif decide (v14 < v3) then ((mk_Tape_Range v1 v15 (-1) 1).bind fun v17 => chk ((v13.length + 1) * 8 ≤ 140737488355328) (contO (((v13 ++ [v17.1]), IntKind.i64.wrap (v14 + 1), v17.2) : List Int × Int × Int))) else (exitO (some ((v15, v13) : Int × List Int)))
noncomputable def mk_Tape_State (v1 : List Int) (v2 : Int) (v3 : Int) : Option (Int × List Int) :=
  iter (fun g : List Int × Int × Int => mk_Tape_State_l0 v3 v1 g.1 g.2.1 g.2.2) ([], 0, v2)
theorem mk_Tape_State_ok (v1 : List Int) (v2 : Int) (v3 : Int) (r : Int × List Int) (hx : mk_Tape_State v1 v2 v3 = some r) :
    ACalls Try.prog 14 [.box 0 0, .d (.int .i64 v3)] [(0, some (.box [.d (.sl (List.map iD v1)), .d (.int .i64 v2)]))] (.arr 2000 0 r.2.length) [(0, some (.box [.d (.sl (List.map iD v1)), .d (.int .i64 r.1)])), (2000, some (.arr 3 1 (List.map iD r.2)))] := by
  refine ACalls.of_sem (n := 18) 1 [4] (fn := Try.f14) Try.func14 rfl rfl (.one rfl) rfl (by simp) (by intro i; simp only [hget]; (repeat' split) <;> simp <;> omega) ?_
  unfold mk_Tape_State at hx
  refine Walk.seq (Walk.region' rfl fun K hK => ?_)
  simp only [go_sem, seval]
  refine hK _ ?_
  clear hK K
  refine Walk.seq (Walk.region' rfl fun K hK => ?_)
  simp only [go_sem, seval]
  refine hK _ ?_
  clear hK K
  refine Walk.seq (Walk.seq (Walk.region' rfl fun K hK => ?_))
  simp only [go_sem, seval]
  refine hK _ ?_
  clear hK K
  refine Walk.block (Walk.loop ?_)
  refine Walk.weaken ⟨[(0, .box 0 0), (1, .d (.int .i64 v3)), (5, .nils), (6, .d (.int .i64 0))], [(0, some (.box [.d (.sl (List.map iD v1)), .d (.int .i64 v2)]))]⟩ (by simp <;> omega) (by simp <;> omega) ?_
  refine Walk.up 1002 3 1 [(0, .box 0 0), (1, .d (.int .i64 v3)), (5, .arr 1002 0 0), (6, .d (.int .i64 0))] [(0, some (.box [.d (.sl (List.map iD v1)), .d (.int .i64 v2)]))] (by simp) (by simp) (by omega) (by simp) (by simp) (by simp) ?_
  refine Walk.weaken ⟨[(0, .box 0 0), (1, .d (.int .i64 v3)), (5, .arr 1002 0 0), (6, .d (.int .i64 0))], [(0, some (.box [.d (.sl (List.map iD v1)), .d (.int .i64 v2)])), (1002, some (.arr 3 1 (List.map iD [])))]⟩ (by simp <;> omega) (by simp <;> omega) ?_
  refine Walk.iter (σ := List Int × Int × Int) (fun g => ⟨[(0, .box 0 0), (1, .d (.int .i64 v3)), (5, .arr 1002 0 g.1.length), (6, .d (.int .i64 g.2.1))], [(0, some (.box [.d (.sl (List.map iD v1)), .d (.int .i64 g.2.2)])), (1002, some (.arr 3 1 (List.map iD g.1)))]⟩) (fun g : List Int × Int × Int => mk_Tape_State_l0 v3 v1 g.1 g.2.1 g.2.2) _ (fun g y37 hx ih28 hr29 => ?_) ([], 0, v2) hx
  obtain ⟨v13, v14, v15⟩ := g
  unfold mk_Tape_State_l0 at hx
  try dsimp only at hx ⊢
  refine Walk.seq (Walk.seq (Walk.region' rfl fun K hK => ?_))
  simp only [go_sem, seval]
  refine hK _ ?_
  clear hK K
  refine Walk.condO rfl hx (fun c32 hx => ?_) (fun c32 hx => ?_)
  · refine Walk.skip (Walk.seq (Walk.block (Walk.region' rfl fun K hK => ?_)))
    obtain ⟨v17, h33, hx⟩ := bind_elim hx
    simp only [go_sem, seval, c32]
    refine VCl.sub [(0, some (.box [.d (.sl (List.map iD v1)), .d (.int .i64 v15)]))] [] rfl (by simp only [go_sem, seval, AV.viewXs, AV.viewX, avD, c32]; try simp) (mk_Tape_Range_ok v1 v15 (-1) 1 _ h33) (by simp [c32]) (by simp [c32]) (by simp [c32]) (by simp [c32]) (by simp [c32]) (by simp [c32]) (by simp [c32]) (by simp [c32]) (by simp [c32]) (by simp [c32]) ?_
    obtain ⟨k34, hx⟩ := chk_elim hx
    simp only [go_sem, seval, c32, k34]
    repeat refine And.intro (by first | omega | (simp; done) | (simp; omega)) ?_
    refine hK _ ?_
    clear hK K
    refine Walk.weaken ⟨[(0, .box 0 0), (1, .d (.int .i64 v3)), (5, .arr 1002 0 ((v13 ++ [v17.1]).length)), (6, .d (.int .i64 v14))], [(0, some (.box [.d (.sl (List.map iD v1)), .d (.int .i64 v17.2)])), (1002, some (.arr 3 1 (List.map iD (v13 ++ [v17.1]))))]⟩ (by simp [c32, k34] <;> omega) (by simp [c32, k34] <;> omega) ?_
    refine Walk.inBlock (Walk.region' rfl fun K hK => ?_)
    simp only [go_sem, seval, c32, k34]
    refine hK _ ?_
    clear hK K
    exact Walk.weaken _ (by simp [c32, k34] <;> omega) (by simp [c32, k34] <;> omega) (ih28 _ (cont_elim hx))
  refine Walk.exit rfl ?_
  obtain ⟨z35, e36, hx⟩ := exit_elim hx
  rw [hr29 z35 e36] at hx
  refine Walk.seq (Walk.region' rfl fun K hK => ?_)
  simp only [go_sem, seval, c32]
  refine hK _ ?_
  clear hK K
  refine Walk.weaken ⟨[(4, .arr 1002 0 v13.length)], [(0, some (.box [.d (.sl (List.map iD v1)), .d (.int .i64 v15)])), (1002, some (.arr 3 1 (List.map iD v13)))]⟩ (by simp [c32] <;> omega) (by simp [c32] <;> omega) ?_
  refine Walk.rename 1002 2000 (by omega) (by omega) (by simp) (by simp) ?_
  simp only [renE, renL, AV.ren, AV.rens, AObj.ren, swp, Option.map_some, reduceIte, Nat.reduceEqDiff]
  obtain rfl := Option.some.inj hx
  exact Walk.ret ⟨by simp [c32], by simp [c32]⟩
noncomputable def mk_Tape_Bent_j0 (v1 : List Int) (v46 : Int) (v47 : List Node) : Option (List Node × Int) :=
  (mk_Tape_One v1 v46 4).bind fun v48 => bif v48.1 then (chk ((v47.length + 1) * 56 ≤ 140737488355328) (some (((v47 ++ [(Node.mk 3 0 0 0 (-1) 0 1)]), v48.2) : List Node × Int))) else (some ((v47, v48.2) : List Node × Int))
noncomputable def mk_Tape_Bent (v1 : List Int) (v2 : Int) (v3 : List Node) (v4 : Int) : Option (List Node × Int) :=
  bif decide (v4 < 1) then (some ((v3, v2) : List Node × Int)) else ((mk_Tape_One v1 v2 v4).bind fun v29 => bif !v29.1 then (some ((v3, v29.2) : List Node × Int)) else (bif decide ((v3.length : Int) = 0) then (some ((v3, v29.2) : List Node × Int)) else (chk ((v3.length) * 56 ≤ 140737488355328) ((mk_Tape_Next v1 v29.2 (v3.length : Int)).bind fun v30 => (mk_Tape_Next v1 v30.2 7).bind fun v49 => bif decide (v49.1 = 0) then ((mk_Tape_Range v1 v49.2 0 4).bind fun v50 => (rd v3 v30.1).bind fun v51 => mk_Tape_Bent_j0 v1 v50.2 (v3.set (v30.1).toNat (Node.mk v50.1 v51.Var v51.Zero v51.One v51.Row v51.Num v51.Den))) else (bif decide (v49.1 = 1) then ((mk_Tape_Range v1 v49.2 (-1) 7).bind fun v52 => (rd v3 v30.1).bind fun v53 => mk_Tape_Bent_j0 v1 v52.2 (v3.set (v30.1).toNat (Node.mk v53.Kind v52.1 v53.Zero v53.One v53.Row v53.Num v53.Den))) else (bif decide (v49.1 = 2) then ((mk_Tape_Range v1 v49.2 (-1) (v3.length : Int)).bind fun v54 => (rd v3 v30.1).bind fun v55 => mk_Tape_Bent_j0 v1 v54.2 (v3.set (v30.1).toNat (Node.mk v55.Kind v55.Var v54.1 v55.One v55.Row v55.Num v55.Den))) else (bif decide (v49.1 = 3) then ((mk_Tape_Range v1 v49.2 (-1) (v3.length : Int)).bind fun v56 => (rd v3 v30.1).bind fun v57 => mk_Tape_Bent_j0 v1 v56.2 (v3.set (v30.1).toNat (Node.mk v57.Kind v57.Var v57.Zero v56.1 v57.Row v57.Num v57.Den))) else (bif decide (v49.1 = 4) then ((mk_Tape_Range v1 v49.2 (-2) 5).bind fun v58 => (rd v3 v30.1).bind fun v59 => mk_Tape_Bent_j0 v1 v58.2 (v3.set (v30.1).toNat (Node.mk v59.Kind v59.Var v59.Zero v59.One v58.1 v59.Num v59.Den))) else (bif decide (v49.1 = 5) then ((mk_Tape_Pick v1 v49.2 [0, 10000, 10001, -10000, -10001]).bind fun v60 => (rd v3 v30.1).bind fun v61 => mk_Tape_Bent_j0 v1 v60.2 (v3.set (v30.1).toNat (Node.mk v61.Kind v61.Var v61.Zero v61.One v61.Row v60.1 v61.Den))) else ((mk_Tape_Pick v1 v49.2 [0, 1, 10000, 10001, -1]).bind fun v62 => (rd v3 v30.1).bind fun v63 => mk_Tape_Bent_j0 v1 v62.2 (v3.set (v30.1).toNat (Node.mk v63.Kind v63.Var v63.Zero v63.One v63.Row v63.Num v62.1))))))))))))
theorem mk_Tape_Bent_ok (v1 : List Int) (v2 : Int) (v3 : List Node) (v4 : Int) (r : List Node × Int) (hx : mk_Tape_Bent v1 v2 v3 v4 = some r) :
    ACalls Try.prog 17 [.box 0 0, .d (.sl (List.map Node.D v3)), .d (.int .i64 v4)] [(0, some (.box [.d (.sl (List.map iD v1)), .d (.int .i64 v2)]))] (.d (.sl (List.map Node.D r.1))) [(0, some (.box [.d (.sl (List.map iD v1)), .d (.int .i64 r.2)]))] := by
  refine ACalls.of_sem (n := 99) 1 [6] (fn := Try.f17) Try.func17 rfl rfl (.one rfl) rfl (by simp) (by intro i; simp only [hget]; (repeat' split) <;> simp <;> omega) ?_
  unfold mk_Tape_Bent at hx
  refine Walk.seq (Walk.region' rfl fun K hK => ?_)
  simp only [go_sem, seval]
  refine hK _ ?_
  clear hK K
  refine Walk.seq (Walk.seq (Walk.region' rfl fun K hK => ?_))
  simp only [go_sem, seval]
  refine VGdO hx (fun g61 hx => ?_) (fun g61 hx => ?_)
  · simp only [go_sem, seval, g61]
    refine hK _ ?_
    clear hK K
    refine Walk.condT rfl (Walk.seq (Walk.region' rfl fun K hK => ?_))
    simp only [go_sem, seval, g61]
    refine hK _ ?_
    clear hK K
    obtain rfl := Option.some.inj hx
    exact Walk.ret ⟨by simp [g61], by simp [g61]⟩
  obtain ⟨v29, h62, hx⟩ := bind_elim hx
  simp only [go_sem, seval, g61]
  refine VCl.sub [(0, some (.box [.d (.sl (List.map iD v1)), .d (.int .i64 v2)]))] [] rfl (by simp only [go_sem, seval, AV.viewXs, AV.viewX, avD, g61]; try simp) (mk_Tape_One_ok v1 v2 v4 _ h62) (by simp [g61]) (by simp [g61]) (by simp [g61]) (by simp [g61]) (by simp [g61]) (by simp [g61]) (by simp [g61]) (by simp [g61]) (by simp [g61]) (by simp [g61]) ?_
  simp only [go_sem, seval, g61]
  refine VGdO hx (fun g63 hx => ?_) (fun g63 hx => ?_)
  · simp only [go_sem, seval, g61, g63]
    refine hK _ ?_
    clear hK K
    refine Walk.weaken ⟨[(0, .box 0 0), (1, .d (.sl (List.map Node.D v3))), (21, .d (.bool true))], [(0, some (.box [.d (.sl (List.map iD v1)), .d (.int .i64 v29.2)]))]⟩ (by simp [g61, g63] <;> omega) (by simp [g61, g63] <;> omega) ?_
    refine Walk.condT rfl (Walk.seq (Walk.region' rfl fun K hK => ?_))
    simp only [go_sem, seval, g61, g63]
    refine hK _ ?_
    clear hK K
    obtain rfl := Option.some.inj hx
    exact Walk.ret ⟨by simp [g61, g63], by simp [g61, g63]⟩
  simp only [go_sem, seval, g61, g63]
  refine hK _ ?_
  clear hK K
  refine Walk.weaken ⟨[(0, .box 0 0), (1, .d (.sl (List.map Node.D v3))), (21, .d (.bool (decide ((v3.length : Int) = 0))))], [(0, some (.box [.d (.sl (List.map iD v1)), .d (.int .i64 v29.2)]))]⟩ (by simp [g61, g63] <;> omega) (by simp [g61, g63] <;> omega) ?_
  refine Walk.condO rfl hx (fun c65 hx => ?_) (fun c65 hx => ?_)
  · refine Walk.seq (Walk.region' rfl fun K hK => ?_)
    simp only [go_sem, seval, g61, g63, c65]
    refine hK _ ?_
    clear hK K
    obtain rfl := Option.some.inj hx
    exact Walk.ret ⟨by simp [g61, g63, c65], by simp [g61, g63, c65]⟩
  refine Walk.skip (Walk.seq (Walk.region' rfl fun K hK => ?_))
  simp only [go_sem, seval, g61, g63, c65]
  refine hK _ ?_
  clear hK K
  refine Walk.seq (Walk.region' rfl fun K hK => ?_)
  obtain ⟨k66, hx⟩ := chk_elim hx
  simp only [go_sem, seval, g61, g63, c65, k66]
  repeat refine And.intro (by first | omega | (simp; done) | (simp; omega)) ?_
  refine hK _ ?_
  clear hK K
  refine Walk.weaken ⟨[(0, .box 0 0), (7, .arr 26 0 v3.length)], [(0, some (.box [.d (.sl (List.map iD v1)), .d (.int .i64 v29.2)])), (26, some (.arr 33 7 (List.map Node.D v3)))]⟩ (by simp [g61, g63, c65, k66] <;> omega) (by simp [g61, g63, c65, k66] <;> omega) ?_
  refine Walk.seq (Walk.region' rfl fun K hK => ?_)
  obtain ⟨v30, h67, hx⟩ := bind_elim hx
  simp only [go_sem, seval, g61, g63, c65, k66]
  refine VCl.sub [(0, some (.box [.d (.sl (List.map iD v1)), .d (.int .i64 v29.2)]))] [] rfl (by simp only [go_sem, seval, AV.viewXs, AV.viewX, avD, g61, g63, c65, k66]; try simp) (mk_Tape_Next_ok v1 v29.2 (v3.length : Int) _ h67) (by simp [g61, g63, c65, k66]) (by simp [g61, g63, c65, k66]) (by simp [g61, g63, c65, k66]) (by simp [g61, g63, c65, k66]) (by simp [g61, g63, c65, k66]) (by simp [g61, g63, c65, k66]) (by simp [g61, g63, c65, k66]) (by simp [g61, g63, c65, k66]) (by simp [g61, g63, c65, k66]) (by simp [g61, g63, c65, k66]) ?_
  simp only [go_sem, seval, g61, g63, c65, k66]
  refine hK _ ?_
  clear hK K
  refine Walk.weaken ⟨[(0, .box 0 0), (7, .arr 26 0 v3.length), (8, .d (.int .i64 v30.1))], [(0, some (.box [.d (.sl (List.map iD v1)), .d (.int .i64 v30.2)])), (26, some (.arr 33 7 (List.map Node.D v3)))]⟩ (by simp [g61, g63, c65, k66] <;> omega) (by simp [g61, g63, c65, k66] <;> omega) ?_
  refine Walk.seq (Walk.join (G := Int × List Node) (fun g => ⟨[(0, .box 0 0), (7, .arr 26 0 g.2.length)], [(0, some (.box [.d (.sl (List.map iD v1)), .d (.int .i64 g.1)])), (26, some (.arr 33 7 (List.map Node.D g.2)))]⟩) (fun g => mk_Tape_Bent_j0 v1 g.1 g.2) hx (fun g hx => ?_) (fun fin110 => ?_))
  · obtain ⟨v46, v47⟩ := g
    unfold mk_Tape_Bent_j0 at hx
    try dsimp only at hx ⊢
    refine Walk.seq (Walk.seq (Walk.region' rfl fun K hK => ?_))
    obtain ⟨v48, h111, hx⟩ := bind_elim hx
    simp only [go_sem, seval, g61, g63, c65, k66]
    refine VCl.sub [(0, some (.box [.d (.sl (List.map iD v1)), .d (.int .i64 v46)]))] [] rfl (by simp only [go_sem, seval, AV.viewXs, AV.viewX, avD, g61, g63, c65, k66]; try simp) (mk_Tape_One_ok v1 v46 4 _ h111) (by simp [g61, g63, c65, k66]) (by simp [g61, g63, c65, k66]) (by simp [g61, g63, c65, k66]) (by simp [g61, g63, c65, k66]) (by simp [g61, g63, c65, k66]) (by simp [g61, g63, c65, k66]) (by simp [g61, g63, c65, k66]) (by simp [g61, g63, c65, k66]) (by simp [g61, g63, c65, k66]) (by simp [g61, g63, c65, k66]) ?_
    simp only [go_sem, seval, g61, g63, c65, k66]
    refine hK _ ?_
    clear hK K
    refine Walk.weaken ⟨[(7, .arr 26 0 v47.length), (93, .d (.bool v48.1))], [(0, some (.box [.d (.sl (List.map iD v1)), .d (.int .i64 v48.2)])), (26, some (.arr 33 7 (List.map Node.D v47)))]⟩ (by simp [g61, g63, c65, k66] <;> omega) (by simp [g61, g63, c65, k66] <;> omega) ?_
    refine Walk.condO rfl hx (fun c112 hx => ?_) (fun c112 hx => ?_)
    · refine Walk.region' rfl fun K hK => ?_
      obtain ⟨k113, hx⟩ := chk_elim hx
      simp only [go_sem, seval, g61, g63, c65, k66, c112, k113]
      repeat refine And.intro (by first | omega | (simp; done) | (simp; omega)) ?_
      refine hK _ ?_
      clear hK K
      refine Walk.weaken ⟨[(7, .arr 26 0 (((v47 ++ [(Node.mk 3 0 0 0 (-1) 0 1)])).length))], [(0, some (.box [.d (.sl (List.map iD v1)), .d (.int .i64 v48.2)])), (26, some (.arr 33 7 (List.map Node.D ((v47 ++ [(Node.mk 3 0 0 0 (-1) 0 1)])))))]⟩ (by simp [g61, g63, c65, k66, c112, k113] <;> omega) (by simp [g61, g63, c65, k66, c112, k113] <;> omega) ?_
      refine Walk.seq (Walk.region' rfl fun K hK => ?_)
      simp only [go_sem, seval, g61, g63, c65, k66, c112, k113]
      refine hK _ ?_
      clear hK K
      refine Walk.weaken ⟨[(6, .arr 26 0 (((v47 ++ [(Node.mk 3 0 0 0 (-1) 0 1)])).length))], [(0, some (.box [.d (.sl (List.map iD v1)), .d (.int .i64 v48.2)])), (26, some (.arr 33 7 (List.map Node.D ((v47 ++ [(Node.mk 3 0 0 0 (-1) 0 1)])))))]⟩ (by simp [g61, g63, c65, k66, c112, k113] <;> omega) (by simp [g61, g63, c65, k66, c112, k113] <;> omega) ?_
      refine Walk.freeze 26 33 7 (List.map Node.D ((v47 ++ [(Node.mk 3 0 0 0 (-1) 0 1)]))) [(6, .d (.sl (List.map Node.D ((v47 ++ [(Node.mk 3 0 0 0 (-1) 0 1)])))))] [(0, some (.box [.d (.sl (List.map iD v1)), .d (.int .i64 v48.2)]))] (by simp) (by simp) (by simp) ?_
      obtain rfl := Option.some.inj hx
      exact Walk.ret ⟨by simp [g61, g63, c65, k66, c112, k113], by simp [g61, g63, c65, k66, c112, k113]⟩
    refine Walk.skip (Walk.seq (Walk.region' rfl fun K hK => ?_))
    simp only [go_sem, seval, g61, g63, c65, k66, c112]
    refine hK _ ?_
    clear hK K
    refine Walk.weaken ⟨[(6, .arr 26 0 v47.length)], [(0, some (.box [.d (.sl (List.map iD v1)), .d (.int .i64 v48.2)])), (26, some (.arr 33 7 (List.map Node.D v47)))]⟩ (by simp [g61, g63, c65, k66, c112] <;> omega) (by simp [g61, g63, c65, k66, c112] <;> omega) ?_
    refine Walk.freeze 26 33 7 (List.map Node.D v47) [(6, .d (.sl (List.map Node.D v47)))] [(0, some (.box [.d (.sl (List.map iD v1)), .d (.int .i64 v48.2)]))] (by simp) (by simp) (by simp) ?_
    obtain rfl := Option.some.inj hx
    exact Walk.ret ⟨by simp [g61, g63, c65, k66, c112], by simp [g61, g63, c65, k66, c112]⟩
  refine Walk.seq (Walk.region' rfl fun K hK => ?_)
  obtain ⟨v49, h114, hx⟩ := bind_elim hx
  simp only [go_sem, seval, g61, g63, c65, k66]
  refine VCl.sub [(0, some (.box [.d (.sl (List.map iD v1)), .d (.int .i64 v30.2)]))] [] rfl (by simp only [go_sem, seval, AV.viewXs, AV.viewX, avD, g61, g63, c65, k66]; try simp) (mk_Tape_Next_ok v1 v30.2 7 _ h114) (by simp [g61, g63, c65, k66]) (by simp [g61, g63, c65, k66]) (by simp [g61, g63, c65, k66]) (by simp [g61, g63, c65, k66]) (by simp [g61, g63, c65, k66]) (by simp [g61, g63, c65, k66]) (by simp [g61, g63, c65, k66]) (by simp [g61, g63, c65, k66]) (by simp [g61, g63, c65, k66]) (by simp [g61, g63, c65, k66]) ?_
  simp only [go_sem, seval, g61, g63, c65, k66]
  refine hK _ ?_
  clear hK K
  refine Walk.weaken ⟨[(0, .box 0 0), (7, .arr 26 0 v3.length), (8, .d (.int .i64 v30.1)), (31, .d (.int .i64 v49.1))], [(0, some (.box [.d (.sl (List.map iD v1)), .d (.int .i64 v49.2)])), (26, some (.arr 33 7 (List.map Node.D v3)))]⟩ (by simp [g61, g63, c65, k66] <;> omega) (by simp [g61, g63, c65, k66] <;> omega) ?_
  refine Walk.block (Walk.seq (Walk.region' rfl fun K hK => ?_))
  simp only [go_sem, seval, g61, g63, c65, k66]
  refine hK _ ?_
  clear hK K
  refine Walk.condO rfl hx (fun c115 hx => ?_) (fun c115 hx => ?_)
  · refine Walk.region' rfl fun K hK => ?_
    obtain ⟨v50, h116, hx⟩ := bind_elim hx
    simp only [go_sem, seval, g61, g63, c65, k66, c115]
    refine VCl.sub [(0, some (.box [.d (.sl (List.map iD v1)), .d (.int .i64 v49.2)]))] [] rfl (by simp only [go_sem, seval, AV.viewXs, AV.viewX, avD, g61, g63, c65, k66, c115]; try simp) (mk_Tape_Range_ok v1 v49.2 0 4 _ h116) (by simp [g61, g63, c65, k66, c115]) (by simp [g61, g63, c65, k66, c115]) (by simp [g61, g63, c65, k66, c115]) (by simp [g61, g63, c65, k66, c115]) (by simp [g61, g63, c65, k66, c115]) (by simp [g61, g63, c65, k66, c115]) (by simp [g61, g63, c65, k66, c115]) (by simp [g61, g63, c65, k66, c115]) (by simp [g61, g63, c65, k66, c115]) (by simp [g61, g63, c65, k66, c115]) ?_
    obtain ⟨v51, r117, a118, b119, c120, hx⟩ := rd_elim hx
    simp only [go_sem, seval, g61, g63, c65, k66, c115, a118, b119, c120]
    repeat refine And.intro (by first | omega | (simp; done) | (simp; omega)) ?_
    refine hK _ ?_
    clear hK K
    refine Walk.weaken ⟨[(0, .box 0 0), (7, .arr 26 0 (((v3.set (v30.1).toNat (Node.mk v50.1 v51.Var v51.Zero v51.One v51.Row v51.Num v51.Den))).length))], [(0, some (.box [.d (.sl (List.map iD v1)), .d (.int .i64 v50.2)])), (26, some (.arr 33 7 (List.map Node.D ((v3.set (v30.1).toNat (Node.mk v50.1 v51.Var v51.Zero v51.One v51.Row v51.Num v51.Den))))))]⟩ (by simp [g61, g63, c65, k66, c115, a118, b119, c120] <;> omega) (by simp [g61, g63, c65, k66, c115, a118, b119, c120] <;> omega) ?_
    refine Walk.inBlock ?_
    exact Walk.weaken _ (by simp [g61, g63, c65, k66, c115, a118, b119, c120] <;> omega) (by simp [g61, g63, c65, k66, c115, a118, b119, c120] <;> omega) (fin110 (v50.2, (v3.set (v30.1).toNat (Node.mk v50.1 v51.Var v51.Zero v51.One v51.Row v51.Num v51.Den))) hx)
  refine Walk.seq (Walk.region' rfl fun K hK => ?_)
  simp only [go_sem, seval, g61, g63, c65, k66, c115]
  refine hK _ ?_
  clear hK K
  refine Walk.condO rfl hx (fun c121 hx => ?_) (fun c121 hx => ?_)
  · refine Walk.region' rfl fun K hK => ?_
    obtain ⟨v52, h122, hx⟩ := bind_elim hx
    simp only [go_sem, seval, g61, g63, c65, k66, c115, c121]
    refine VCl.sub [(0, some (.box [.d (.sl (List.map iD v1)), .d (.int .i64 v49.2)]))] [] rfl (by simp only [go_sem, seval, AV.viewXs, AV.viewX, avD, g61, g63, c65, k66, c115, c121]; try simp) (mk_Tape_Range_ok v1 v49.2 (-1) 7 _ h122) (by simp [g61, g63, c65, k66, c115, c121]) (by simp [g61, g63, c65, k66, c115, c121]) (by simp [g61, g63, c65, k66, c115, c121]) (by simp [g61, g63, c65, k66, c115, c121]) (by simp [g61, g63, c65, k66, c115, c121]) (by simp [g61, g63, c65, k66, c115, c121]) (by simp [g61, g63, c65, k66, c115, c121]) (by simp [g61, g63, c65, k66, c115, c121]) (by simp [g61, g63, c65, k66, c115, c121]) (by simp [g61, g63, c65, k66, c115, c121]) ?_
    obtain ⟨v53, r123, a124, b125, c126, hx⟩ := rd_elim hx
    simp only [go_sem, seval, g61, g63, c65, k66, c115, c121, a124, b125, c126]
    repeat refine And.intro (by first | omega | (simp; done) | (simp; omega)) ?_
    refine hK _ ?_
    clear hK K
    refine Walk.weaken ⟨[(0, .box 0 0), (7, .arr 26 0 (((v3.set (v30.1).toNat (Node.mk v53.Kind v52.1 v53.Zero v53.One v53.Row v53.Num v53.Den))).length))], [(0, some (.box [.d (.sl (List.map iD v1)), .d (.int .i64 v52.2)])), (26, some (.arr 33 7 (List.map Node.D ((v3.set (v30.1).toNat (Node.mk v53.Kind v52.1 v53.Zero v53.One v53.Row v53.Num v53.Den))))))]⟩ (by simp [g61, g63, c65, k66, c115, c121, a124, b125, c126] <;> omega) (by simp [g61, g63, c65, k66, c115, c121, a124, b125, c126] <;> omega) ?_
    refine Walk.inBlock ?_
    exact Walk.weaken _ (by simp [g61, g63, c65, k66, c115, c121, a124, b125, c126] <;> omega) (by simp [g61, g63, c65, k66, c115, c121, a124, b125, c126] <;> omega) (fin110 (v52.2, (v3.set (v30.1).toNat (Node.mk v53.Kind v52.1 v53.Zero v53.One v53.Row v53.Num v53.Den))) hx)
  refine Walk.seq (Walk.region' rfl fun K hK => ?_)
  simp only [go_sem, seval, g61, g63, c65, k66, c115, c121]
  refine hK _ ?_
  clear hK K
  refine Walk.condO rfl hx (fun c127 hx => ?_) (fun c127 hx => ?_)
  · refine Walk.region' rfl fun K hK => ?_
    obtain ⟨v54, h128, hx⟩ := bind_elim hx
    simp only [go_sem, seval, g61, g63, c65, k66, c115, c121, c127]
    refine VCl.sub [(0, some (.box [.d (.sl (List.map iD v1)), .d (.int .i64 v49.2)]))] [] rfl (by simp only [go_sem, seval, AV.viewXs, AV.viewX, avD, g61, g63, c65, k66, c115, c121, c127]; try simp) (mk_Tape_Range_ok v1 v49.2 (-1) (v3.length : Int) _ h128) (by simp [g61, g63, c65, k66, c115, c121, c127]) (by simp [g61, g63, c65, k66, c115, c121, c127]) (by simp [g61, g63, c65, k66, c115, c121, c127]) (by simp [g61, g63, c65, k66, c115, c121, c127]) (by simp [g61, g63, c65, k66, c115, c121, c127]) (by simp [g61, g63, c65, k66, c115, c121, c127]) (by simp [g61, g63, c65, k66, c115, c121, c127]) (by simp [g61, g63, c65, k66, c115, c121, c127]) (by simp [g61, g63, c65, k66, c115, c121, c127]) (by simp [g61, g63, c65, k66, c115, c121, c127]) ?_
    obtain ⟨v55, r129, a130, b131, c132, hx⟩ := rd_elim hx
    simp only [go_sem, seval, g61, g63, c65, k66, c115, c121, c127, a130, b131, c132]
    repeat refine And.intro (by first | omega | (simp; done) | (simp; omega)) ?_
    refine hK _ ?_
    clear hK K
    refine Walk.weaken ⟨[(0, .box 0 0), (7, .arr 26 0 (((v3.set (v30.1).toNat (Node.mk v55.Kind v55.Var v54.1 v55.One v55.Row v55.Num v55.Den))).length))], [(0, some (.box [.d (.sl (List.map iD v1)), .d (.int .i64 v54.2)])), (26, some (.arr 33 7 (List.map Node.D ((v3.set (v30.1).toNat (Node.mk v55.Kind v55.Var v54.1 v55.One v55.Row v55.Num v55.Den))))))]⟩ (by simp [g61, g63, c65, k66, c115, c121, c127, a130, b131, c132] <;> omega) (by simp [g61, g63, c65, k66, c115, c121, c127, a130, b131, c132] <;> omega) ?_
    refine Walk.inBlock ?_
    exact Walk.weaken _ (by simp [g61, g63, c65, k66, c115, c121, c127, a130, b131, c132] <;> omega) (by simp [g61, g63, c65, k66, c115, c121, c127, a130, b131, c132] <;> omega) (fin110 (v54.2, (v3.set (v30.1).toNat (Node.mk v55.Kind v55.Var v54.1 v55.One v55.Row v55.Num v55.Den))) hx)
  refine Walk.seq (Walk.region' rfl fun K hK => ?_)
  simp only [go_sem, seval, g61, g63, c65, k66, c115, c121, c127]
  refine hK _ ?_
  clear hK K
  refine Walk.condO rfl hx (fun c133 hx => ?_) (fun c133 hx => ?_)
  · refine Walk.region' rfl fun K hK => ?_
    obtain ⟨v56, h134, hx⟩ := bind_elim hx
    simp only [go_sem, seval, g61, g63, c65, k66, c115, c121, c127, c133]
    refine VCl.sub [(0, some (.box [.d (.sl (List.map iD v1)), .d (.int .i64 v49.2)]))] [] rfl (by simp only [go_sem, seval, AV.viewXs, AV.viewX, avD, g61, g63, c65, k66, c115, c121, c127, c133]; try simp) (mk_Tape_Range_ok v1 v49.2 (-1) (v3.length : Int) _ h134) (by simp [g61, g63, c65, k66, c115, c121, c127, c133]) (by simp [g61, g63, c65, k66, c115, c121, c127, c133]) (by simp [g61, g63, c65, k66, c115, c121, c127, c133]) (by simp [g61, g63, c65, k66, c115, c121, c127, c133]) (by simp [g61, g63, c65, k66, c115, c121, c127, c133]) (by simp [g61, g63, c65, k66, c115, c121, c127, c133]) (by simp [g61, g63, c65, k66, c115, c121, c127, c133]) (by simp [g61, g63, c65, k66, c115, c121, c127, c133]) (by simp [g61, g63, c65, k66, c115, c121, c127, c133]) (by simp [g61, g63, c65, k66, c115, c121, c127, c133]) ?_
    obtain ⟨v57, r135, a136, b137, c138, hx⟩ := rd_elim hx
    simp only [go_sem, seval, g61, g63, c65, k66, c115, c121, c127, c133, a136, b137, c138]
    repeat refine And.intro (by first | omega | (simp; done) | (simp; omega)) ?_
    refine hK _ ?_
    clear hK K
    refine Walk.weaken ⟨[(0, .box 0 0), (7, .arr 26 0 (((v3.set (v30.1).toNat (Node.mk v57.Kind v57.Var v57.Zero v56.1 v57.Row v57.Num v57.Den))).length))], [(0, some (.box [.d (.sl (List.map iD v1)), .d (.int .i64 v56.2)])), (26, some (.arr 33 7 (List.map Node.D ((v3.set (v30.1).toNat (Node.mk v57.Kind v57.Var v57.Zero v56.1 v57.Row v57.Num v57.Den))))))]⟩ (by simp [g61, g63, c65, k66, c115, c121, c127, c133, a136, b137, c138] <;> omega) (by simp [g61, g63, c65, k66, c115, c121, c127, c133, a136, b137, c138] <;> omega) ?_
    refine Walk.inBlock ?_
    exact Walk.weaken _ (by simp [g61, g63, c65, k66, c115, c121, c127, c133, a136, b137, c138] <;> omega) (by simp [g61, g63, c65, k66, c115, c121, c127, c133, a136, b137, c138] <;> omega) (fin110 (v56.2, (v3.set (v30.1).toNat (Node.mk v57.Kind v57.Var v57.Zero v56.1 v57.Row v57.Num v57.Den))) hx)
  refine Walk.seq (Walk.region' rfl fun K hK => ?_)
  simp only [go_sem, seval, g61, g63, c65, k66, c115, c121, c127, c133]
  refine hK _ ?_
  clear hK K
  refine Walk.condO rfl hx (fun c139 hx => ?_) (fun c139 hx => ?_)
  · refine Walk.region' rfl fun K hK => ?_
    obtain ⟨v58, h140, hx⟩ := bind_elim hx
    simp only [go_sem, seval, g61, g63, c65, k66, c115, c121, c127, c133, c139]
    refine VCl.sub [(0, some (.box [.d (.sl (List.map iD v1)), .d (.int .i64 v49.2)]))] [] rfl (by simp only [go_sem, seval, AV.viewXs, AV.viewX, avD, g61, g63, c65, k66, c115, c121, c127, c133, c139]; try simp) (mk_Tape_Range_ok v1 v49.2 (-2) 5 _ h140) (by simp [g61, g63, c65, k66, c115, c121, c127, c133, c139]) (by simp [g61, g63, c65, k66, c115, c121, c127, c133, c139]) (by simp [g61, g63, c65, k66, c115, c121, c127, c133, c139]) (by simp [g61, g63, c65, k66, c115, c121, c127, c133, c139]) (by simp [g61, g63, c65, k66, c115, c121, c127, c133, c139]) (by simp [g61, g63, c65, k66, c115, c121, c127, c133, c139]) (by simp [g61, g63, c65, k66, c115, c121, c127, c133, c139]) (by simp [g61, g63, c65, k66, c115, c121, c127, c133, c139]) (by simp [g61, g63, c65, k66, c115, c121, c127, c133, c139]) (by simp [g61, g63, c65, k66, c115, c121, c127, c133, c139]) ?_
    obtain ⟨v59, r141, a142, b143, c144, hx⟩ := rd_elim hx
    simp only [go_sem, seval, g61, g63, c65, k66, c115, c121, c127, c133, c139, a142, b143, c144]
    repeat refine And.intro (by first | omega | (simp; done) | (simp; omega)) ?_
    refine hK _ ?_
    clear hK K
    refine Walk.weaken ⟨[(0, .box 0 0), (7, .arr 26 0 (((v3.set (v30.1).toNat (Node.mk v59.Kind v59.Var v59.Zero v59.One v58.1 v59.Num v59.Den))).length))], [(0, some (.box [.d (.sl (List.map iD v1)), .d (.int .i64 v58.2)])), (26, some (.arr 33 7 (List.map Node.D ((v3.set (v30.1).toNat (Node.mk v59.Kind v59.Var v59.Zero v59.One v58.1 v59.Num v59.Den))))))]⟩ (by simp [g61, g63, c65, k66, c115, c121, c127, c133, c139, a142, b143, c144] <;> omega) (by simp [g61, g63, c65, k66, c115, c121, c127, c133, c139, a142, b143, c144] <;> omega) ?_
    refine Walk.inBlock ?_
    exact Walk.weaken _ (by simp [g61, g63, c65, k66, c115, c121, c127, c133, c139, a142, b143, c144] <;> omega) (by simp [g61, g63, c65, k66, c115, c121, c127, c133, c139, a142, b143, c144] <;> omega) (fin110 (v58.2, (v3.set (v30.1).toNat (Node.mk v59.Kind v59.Var v59.Zero v59.One v58.1 v59.Num v59.Den))) hx)
  refine Walk.seq (Walk.region' rfl fun K hK => ?_)
  simp only [go_sem, seval, g61, g63, c65, k66, c115, c121, c127, c133, c139]
  refine hK _ ?_
  clear hK K
  refine Walk.condO rfl hx (fun c145 hx => ?_) (fun c145 hx => ?_)
  · refine Walk.region' rfl fun K hK => ?_
    obtain ⟨v60, h146, hx⟩ := bind_elim hx
    simp only [go_sem, seval, g61, g63, c65, k66, c115, c121, c127, c133, c139, c145]
    refine VCl.sub [(0, some (.box [.d (.sl (List.map iD v1)), .d (.int .i64 v49.2)]))] [89] rfl (by simp only [go_sem, seval, AV.viewXs, AV.viewX, avD, g61, g63, c65, k66, c115, c121, c127, c133, c139, c145]; try simp) (mk_Tape_Pick_ok v1 v49.2 [0, 10000, 10001, -10000, -10001] _ h146) (by simp [g61, g63, c65, k66, c115, c121, c127, c133, c139, c145]) (by simp [g61, g63, c65, k66, c115, c121, c127, c133, c139, c145]) (by simp [g61, g63, c65, k66, c115, c121, c127, c133, c139, c145]) (by simp [g61, g63, c65, k66, c115, c121, c127, c133, c139, c145]) (by simp [g61, g63, c65, k66, c115, c121, c127, c133, c139, c145]) (by simp [g61, g63, c65, k66, c115, c121, c127, c133, c139, c145]) (by simp [g61, g63, c65, k66, c115, c121, c127, c133, c139, c145]) (by simp [g61, g63, c65, k66, c115, c121, c127, c133, c139, c145]) (by simp [g61, g63, c65, k66, c115, c121, c127, c133, c139, c145]) (by simp [g61, g63, c65, k66, c115, c121, c127, c133, c139, c145]) ?_
    obtain ⟨v61, r147, a148, b149, c150, hx⟩ := rd_elim hx
    simp only [go_sem, seval, g61, g63, c65, k66, c115, c121, c127, c133, c139, c145, a148, b149, c150]
    repeat refine And.intro (by first | omega | (simp; done) | (simp; omega)) ?_
    refine hK _ ?_
    clear hK K
    refine Walk.weaken ⟨[(0, .box 0 0), (7, .arr 26 0 (((v3.set (v30.1).toNat (Node.mk v61.Kind v61.Var v61.Zero v61.One v61.Row v60.1 v61.Den))).length))], [(0, some (.box [.d (.sl (List.map iD v1)), .d (.int .i64 v60.2)])), (26, some (.arr 33 7 (List.map Node.D ((v3.set (v30.1).toNat (Node.mk v61.Kind v61.Var v61.Zero v61.One v61.Row v60.1 v61.Den))))))]⟩ (by simp [g61, g63, c65, k66, c115, c121, c127, c133, c139, c145, a148, b149, c150] <;> omega) (by simp [g61, g63, c65, k66, c115, c121, c127, c133, c139, c145, a148, b149, c150] <;> omega) ?_
    refine Walk.inBlock ?_
    exact Walk.weaken _ (by simp [g61, g63, c65, k66, c115, c121, c127, c133, c139, c145, a148, b149, c150] <;> omega) (by simp [g61, g63, c65, k66, c115, c121, c127, c133, c139, c145, a148, b149, c150] <;> omega) (fin110 (v60.2, (v3.set (v30.1).toNat (Node.mk v61.Kind v61.Var v61.Zero v61.One v61.Row v60.1 v61.Den))) hx)
  refine Walk.region' rfl fun K hK => ?_
  obtain ⟨v62, h151, hx⟩ := bind_elim hx
  simp only [go_sem, seval, g61, g63, c65, k66, c115, c121, c127, c133, c139, c145]
  refine VCl.sub [(0, some (.box [.d (.sl (List.map iD v1)), .d (.int .i64 v49.2)]))] [36] rfl (by simp only [go_sem, seval, AV.viewXs, AV.viewX, avD, g61, g63, c65, k66, c115, c121, c127, c133, c139, c145]; try simp) (mk_Tape_Pick_ok v1 v49.2 [0, 1, 10000, 10001, -1] _ h151) (by simp [g61, g63, c65, k66, c115, c121, c127, c133, c139, c145]) (by simp [g61, g63, c65, k66, c115, c121, c127, c133, c139, c145]) (by simp [g61, g63, c65, k66, c115, c121, c127, c133, c139, c145]) (by simp [g61, g63, c65, k66, c115, c121, c127, c133, c139, c145]) (by simp [g61, g63, c65, k66, c115, c121, c127, c133, c139, c145]) (by simp [g61, g63, c65, k66, c115, c121, c127, c133, c139, c145]) (by simp [g61, g63, c65, k66, c115, c121, c127, c133, c139, c145]) (by simp [g61, g63, c65, k66, c115, c121, c127, c133, c139, c145]) (by simp [g61, g63, c65, k66, c115, c121, c127, c133, c139, c145]) (by simp [g61, g63, c65, k66, c115, c121, c127, c133, c139, c145]) ?_
  obtain ⟨v63, r152, a153, b154, c155, hx⟩ := rd_elim hx
  simp only [go_sem, seval, g61, g63, c65, k66, c115, c121, c127, c133, c139, c145, a153, b154, c155]
  repeat refine And.intro (by first | omega | (simp; done) | (simp; omega)) ?_
  refine hK _ ?_
  clear hK K
  refine Walk.weaken ⟨[(0, .box 0 0), (7, .arr 26 0 (((v3.set (v30.1).toNat (Node.mk v63.Kind v63.Var v63.Zero v63.One v63.Row v63.Num v62.1))).length))], [(0, some (.box [.d (.sl (List.map iD v1)), .d (.int .i64 v62.2)])), (26, some (.arr 33 7 (List.map Node.D ((v3.set (v30.1).toNat (Node.mk v63.Kind v63.Var v63.Zero v63.One v63.Row v63.Num v62.1))))))]⟩ (by simp [g61, g63, c65, k66, c115, c121, c127, c133, c139, c145, a153, b154, c155] <;> omega) (by simp [g61, g63, c65, k66, c115, c121, c127, c133, c139, c145, a153, b154, c155] <;> omega) ?_
  refine Walk.inBlock ?_
  exact Walk.weaken _ (by simp [g61, g63, c65, k66, c115, c121, c127, c133, c139, c145, a153, b154, c155] <;> omega) (by simp [g61, g63, c65, k66, c115, c121, c127, c133, c139, c145, a153, b154, c155] <;> omega) (fin110 (v62.2, (v3.set (v30.1).toNat (Node.mk v63.Kind v63.Var v63.Zero v63.One v63.Row v63.Num v62.1))) hx)
noncomputable def blueprint_in_1 (v1 : Int) (v2 : Int) : Option (Bool) :=
  bif decide (v1 < 0) then (some (true : Bool)) else (some (decide (v1 > v2) : Bool))
theorem blueprint_in_1_ok (v1 : Int) (v2 : Int) (r : Bool) (hx : blueprint_in_1 v1 v2 = some r) :
    ACalls Try.prog 72 [.d (.int .i64 v1), .box 0 0] [(0, some (.box [.d (.int .i64 v2)]))] (.d (.bool r)) [(0, some (.box [.d (.int .i64 v2)]))] := by
  refine ACalls.of_sem (n := 11) 1 [3] (fn := Try.f72) Try.func72 rfl rfl (.one rfl) rfl (by simp) (by intro i; simp only [hget]; (repeat' split) <;> simp <;> omega) ?_
  unfold blueprint_in_1 at hx
  refine Walk.seq (Walk.region' rfl fun K hK => ?_)
  simp only [go_sem, seval]
  refine hK _ ?_
  clear hK K
  refine Walk.seq (Walk.region' rfl fun K hK => ?_)
  simp only [go_sem, seval]
  refine VGdO hx (fun g2 hx => ?_) (fun g2 hx => ?_)
  · simp only [go_sem, seval, g2]
    refine hK _ ?_
    clear hK K
    obtain rfl := Option.some.inj hx
    exact Walk.ret ⟨by simp [g2], by simp [g2]⟩
  simp only [go_sem, seval, g2]
  refine hK _ ?_
  clear hK K
  obtain rfl := Option.some.inj hx
  exact Walk.ret ⟨by simp [g2], by simp [g2]⟩
noncomputable def slices_IndexFunc_int__in_1_l0 (v1 : List Int) (v2 : Int) (v13 : Int) : Option ((Int) ⊕ (Int)) :=
  bif decide (v13 < (v1.length : Int)) then ((rd v1 v13).bind fun v16 => (blueprint_in_1 v16 v2).bind fun v17 => bif v17 then (exitO (some (v13 : Int))) else (contO (IntKind.i64.wrap (v13 + 1) : Int))) else (exitO (some (-1 : Int)))
noncomputable def slices_IndexFunc_int__in_1 (v1 : List Int) (v2 : Int) : Option (Int) :=
  iter (fun g : Int => slices_IndexFunc_int__in_1_l0 v1 v2 g) 0
theorem slices_IndexFunc_int__in_1_ok (v1 : List Int) (v2 : Int) (r : Int) (hx : slices_IndexFunc_int__in_1 v1 v2 = some r) :
    ACalls Try.prog 74 [.d (.sl (List.map iD v1)), .fn 72 [.box 0 0]] [(0, some (.box [.d (.int .i64 v2)]))] (.d (.int .i64 r)) [(0, some (.box [.d (.int .i64 v2)]))] := by
  refine ACalls.of_sem (n := 19) 1 [4] (fn := Try.f74) Try.func74 rfl rfl (.one rfl) rfl (by simp) (by intro i; simp only [hget]; (repeat' split) <;> simp <;> omega) ?_
  unfold slices_IndexFunc_int__in_1 at hx
  refine Walk.seq (Walk.region' rfl fun K hK => ?_)
  simp only [go_sem, seval]
  refine hK _ ?_
  clear hK K
  refine Walk.seq (Walk.seq (Walk.region' rfl fun K hK => ?_))
  simp only [go_sem, seval]
  refine hK _ ?_
  clear hK K
  refine Walk.block (Walk.loop ?_)
  refine Walk.weaken ⟨[(0, .d (.sl (List.map iD v1))), (1, .fn 72 [.box 0 0]), (7, .d (.int .i64 (v1.length : Int))), (8, .d (.int .i64 0))], [(0, some (.box [.d (.int .i64 v2)]))]⟩ (by simp <;> omega) (by simp <;> omega) ?_
  refine Walk.iter (σ := Int) (fun g => ⟨[(0, .d (.sl (List.map iD v1))), (1, .fn 72 [.box 0 0]), (7, .d (.int .i64 (v1.length : Int))), (8, .d (.int .i64 g))], [(0, some (.box [.d (.int .i64 v2)]))]⟩) (fun g : Int => slices_IndexFunc_int__in_1_l0 v1 v2 g) _ (fun v13 y59 hx ih45 hr46 => ?_) 0 hx
  unfold slices_IndexFunc_int__in_1_l0 at hx
  try dsimp only at hx ⊢
  refine Walk.seq (Walk.region' rfl fun K hK => ?_)
  simp only [go_sem, seval]
  refine hK _ ?_
  clear hK K
  refine Walk.seq (Walk.condO rfl hx (fun c48 hx => ?_) (fun c48 hx => ?_))
  · refine Walk.skip (Walk.seq (Walk.block (Walk.seq (Walk.region' rfl fun K hK => ?_))))
    simp only [go_sem, seval, c48]
    refine hK _ ?_
    clear hK K
    refine Walk.seq (Walk.region' rfl fun K hK => ?_)
    obtain ⟨v16, r49, a50, b51, c52, hx⟩ := rd_elim hx
    obtain ⟨v17, h53, hx⟩ := bind_elim hx
    simp only [go_sem, seval, c48, a50, b51, c52]
    repeat refine And.intro (by first | omega | (simp; done) | (simp; omega)) ?_
    refine VCl.sub [(0, some (.box [.d (.int .i64 v2)]))] [] rfl (by simp only [go_sem, seval, AV.viewXs, AV.viewX, avD, c48, a50, b51, c52]; try simp) (blueprint_in_1_ok v16 v2 _ h53) (by simp [c48, a50, b51, c52]) (by simp [c48, a50, b51, c52]) (by simp [c48, a50, b51, c52]) (by simp [c48, a50, b51, c52]) (by simp [c48, a50, b51, c52]) (by simp [c48, a50, b51, c52]) (by simp [c48, a50, b51, c52]) (by simp [c48, a50, b51, c52]) (by simp [c48, a50, b51, c52]) (by simp [c48, a50, b51, c52]) ?_
    simp only [go_sem, seval, c48, a50, b51, c52]
    refine hK _ ?_
    clear hK K
    refine Walk.weaken ⟨[(0, .d (.sl (List.map iD v1))), (1, .fn 72 [.box 0 0]), (5, .d (.int .i64 v13)), (7, .d (.int .i64 (v1.length : Int))), (8, .d (.int .i64 v13)), (16, .d (.bool v17))], [(0, some (.box [.d (.int .i64 v2)]))]⟩ (by simp [c48, a50, b51, c52] <;> omega) (by simp [c48, a50, b51, c52] <;> omega) ?_
    refine Walk.condO rfl hx (fun c54 hx => ?_) (fun c54 hx => ?_)
    · refine Walk.seq (Walk.region' rfl fun K hK => ?_)
      simp only [go_sem, seval, c48, a50, b51, c52, c54]
      refine hK _ ?_
      clear hK K
      obtain ⟨z55, e56, hx⟩ := exit_elim hx
      rw [hr46 z55 e56] at hx
      obtain rfl := Option.some.inj hx
      exact Walk.ret ⟨by simp [c48, a50, b51, c52, c54], by simp [c48, a50, b51, c52, c54]⟩
    refine Walk.skip (Walk.inBlock (Walk.region' rfl fun K hK => ?_))
    simp only [go_sem, seval, c48, a50, b51, c52, c54]
    refine hK _ ?_
    clear hK K
    exact Walk.weaken _ (by simp [c48, a50, b51, c52, c54] <;> omega) (by simp [c48, a50, b51, c52, c54] <;> omega) (ih45 _ (cont_elim hx))
  refine Walk.exit rfl ?_
  obtain ⟨z57, e58, hx⟩ := exit_elim hx
  rw [hr46 z57 e58] at hx
  refine Walk.seq (Walk.region' rfl fun K hK => ?_)
  simp only [go_sem, seval, c48]
  refine hK _ ?_
  clear hK K
  obtain rfl := Option.some.inj hx
  exact Walk.ret ⟨by simp [c48], by simp [c48]⟩
noncomputable def slices_ContainsFunc_int__in_1 (v1 : List Int) (v2 : Int) : Option (Bool) :=
  (slices_IndexFunc_int__in_1 v1 v2).bind fun v5 => some (decide (v5 ≥ 0) : Bool)
theorem slices_ContainsFunc_int__in_1_ok (v1 : List Int) (v2 : Int) (r : Bool) (hx : slices_ContainsFunc_int__in_1 v1 v2 = some r) :
    ACalls Try.prog 64 [.d (.sl (List.map iD v1)), .fn 72 [.box 0 0]] [(0, some (.box [.d (.int .i64 v2)]))] (.d (.bool r)) [(0, some (.box [.d (.int .i64 v2)]))] := by
  refine ACalls.of_sem (n := 9) 1 [4] (fn := Try.f64) Try.func64 rfl rfl (.one rfl) rfl (by simp) (by intro i; simp only [hget]; (repeat' split) <;> simp <;> omega) ?_
  unfold slices_ContainsFunc_int__in_1 at hx
  refine Walk.seq (Walk.region' rfl fun K hK => ?_)
  simp only [go_sem, seval]
  refine hK _ ?_
  clear hK K
  refine Walk.seq (Walk.region' rfl fun K hK => ?_)
  obtain ⟨v5, h2, hx⟩ := bind_elim hx
  simp only [go_sem, seval]
  refine VCl.sub [(0, some (.box [.d (.int .i64 v2)]))] [] rfl (by simp only [go_sem, seval, AV.viewXs, AV.viewX, avD]; try simp) (slices_IndexFunc_int__in_1_ok v1 v2 _ h2) (by simp) (by simp) (by simp) (by simp) (by simp) (by simp) (by simp) (by simp) (by simp) (by simp) ?_
  simp only [go_sem, seval]
  refine hK _ ?_
  clear hK K
  refine Walk.weaken ⟨[(4, .d (.bool (decide (v5 ≥ 0))))], [(0, some (.box [.d (.int .i64 v2)]))]⟩ (by simp <;> omega) (by simp <;> omega) ?_
  obtain rfl := Option.some.inj hx
  exact Walk.ret ⟨by simp, by simp⟩
noncomputable def blueprint_in (v1 : Int) (v2 : List Int) : Option (Bool) :=
  (slices_ContainsFunc_int__in_1 v2 v1).bind fun v5 => some (!v5 : Bool)
theorem blueprint_in_ok (v1 : Int) (v2 : List Int) (r : Bool) (hx : blueprint_in v1 v2 = some r) :
    ACalls Try.prog 62 [.d (.int .i64 v1), .d (.sl (List.map iD v2))] [] (.d (.bool r)) [] := by
  refine ACalls.of_sem (n := 9) 0 [4] (fn := Try.f62) Try.func62 rfl rfl (.one rfl) rfl (by simp) (by intro i; simp only [hget]; (repeat' split) <;> simp <;> omega) ?_
  unfold blueprint_in at hx
  refine Walk.seq (Walk.region' rfl fun K hK => ?_)
  simp only [go_sem, seval]
  refine hK _ ?_
  clear hK K
  refine Walk.seq (Walk.region' rfl fun K hK => ?_)
  obtain ⟨v5, h3, hx⟩ := bind_elim hx
  have w4 := ((slices_ContainsFunc_int__in_1_ok v2 v1 _ h3).swap 0 2)
  simp only [renE, renL, AV.ren, AV.rens, AObj.ren, swp, Option.map_some, reduceIte, Nat.reduceEqDiff] at w4
  simp only [go_sem, seval]
  refine VCl.sub [(2, some (.box [.d (.int .i64 v1)]))] [] rfl (by simp only [go_sem, seval, AV.viewXs, AV.viewX, avD]; try simp) (w4) (by simp) (by simp) (by simp) (by simp) (by simp) (by simp) (by simp) (by simp) (by simp) (by simp) ?_
  simp only [go_sem, seval]
  refine hK _ ?_
  clear hK K
  refine Walk.weaken ⟨[(4, .d (.bool (!v5)))], []⟩ (by simp <;> omega) (by simp <;> omega) ?_
  obtain rfl := Option.some.inj hx
  exact Walk.ret ⟨by simp, by simp⟩
noncomputable def blueprint_small_1 (v1 : Int) : Option (Bool) :=
  bif decide (v1 < (-10000)) then (some (true : Bool)) else (some (decide (v1 > 10000) : Bool))
theorem blueprint_small_1_ok (v1 : Int) (r : Bool) (hx : blueprint_small_1 v1 = some r) :
    ACalls Try.prog 73 [.d (.int .i64 v1)] [] (.d (.bool r)) [] := by
  refine ACalls.of_sem (n := 9) 0 [2] (fn := Try.f73) Try.func73 rfl rfl (.one rfl) rfl (by simp) (by intro i; simp only [hget]; (repeat' split) <;> simp <;> omega) ?_
  unfold blueprint_small_1 at hx
  refine Walk.seq (Walk.region' rfl fun K hK => ?_)
  simp only [go_sem, seval]
  refine hK _ ?_
  clear hK K
  refine Walk.seq (Walk.region' rfl fun K hK => ?_)
  simp only [go_sem, seval]
  refine VGdO hx (fun g2 hx => ?_) (fun g2 hx => ?_)
  · simp only [go_sem, seval, g2]
    refine hK _ ?_
    clear hK K
    obtain rfl := Option.some.inj hx
    exact Walk.ret ⟨by simp [g2], by simp [g2]⟩
  simp only [go_sem, seval, g2]
  refine hK _ ?_
  clear hK K
  obtain rfl := Option.some.inj hx
  exact Walk.ret ⟨by simp [g2], by simp [g2]⟩
noncomputable def slices_IndexFunc_int__small_1_l0 (v1 : List Int) (v12 : Int) : Option ((Int) ⊕ (Int)) :=
  bif decide (v12 < (v1.length : Int)) then ((rd v1 v12).bind fun v15 => (blueprint_small_1 v15).bind fun v16 => bif v16 then (exitO (some (v12 : Int))) else (contO (IntKind.i64.wrap (v12 + 1) : Int))) else (exitO (some (-1 : Int)))
noncomputable def slices_IndexFunc_int__small_1 (v1 : List Int) : Option (Int) :=
  iter (fun g : Int => slices_IndexFunc_int__small_1_l0 v1 g) 0
theorem slices_IndexFunc_int__small_1_ok (v1 : List Int) (r : Int) (hx : slices_IndexFunc_int__small_1 v1 = some r) :
    ACalls Try.prog 74 [.d (.sl (List.map iD v1)), .fn 73 []] [] (.d (.int .i64 r)) [] := by
  refine ACalls.of_sem (n := 19) 0 [4] (fn := Try.f74) Try.func74 rfl rfl (.one rfl) rfl (by simp) (by intro i; simp only [hget]; (repeat' split) <;> simp <;> omega) ?_
  unfold slices_IndexFunc_int__small_1 at hx
  refine Walk.seq (Walk.region' rfl fun K hK => ?_)
  simp only [go_sem, seval]
  refine hK _ ?_
  clear hK K
  refine Walk.seq (Walk.seq (Walk.region' rfl fun K hK => ?_))
  simp only [go_sem, seval]
  refine hK _ ?_
  clear hK K
  refine Walk.block (Walk.loop ?_)
  refine Walk.weaken ⟨[(0, .d (.sl (List.map iD v1))), (1, .fn 73 []), (7, .d (.int .i64 (v1.length : Int))), (8, .d (.int .i64 0))], []⟩ (by simp <;> omega) (by simp <;> omega) ?_
  refine Walk.iter (σ := Int) (fun g => ⟨[(0, .d (.sl (List.map iD v1))), (1, .fn 73 []), (7, .d (.int .i64 (v1.length : Int))), (8, .d (.int .i64 g))], []⟩) (fun g : Int => slices_IndexFunc_int__small_1_l0 v1 g) _ (fun v12 y59 hx ih45 hr46 => ?_) 0 hx
  unfold slices_IndexFunc_int__small_1_l0 at hx
  try dsimp only at hx ⊢
  refine Walk.seq (Walk.region' rfl fun K hK => ?_)
  simp only [go_sem, seval]
  refine hK _ ?_
  clear hK K
  refine Walk.seq (Walk.condO rfl hx (fun c48 hx => ?_) (fun c48 hx => ?_))
  · refine Walk.skip (Walk.seq (Walk.block (Walk.seq (Walk.region' rfl fun K hK => ?_))))
    simp only [go_sem, seval, c48]
    refine hK _ ?_
    clear hK K
    refine Walk.seq (Walk.region' rfl fun K hK => ?_)
    obtain ⟨v15, r49, a50, b51, c52, hx⟩ := rd_elim hx
    obtain ⟨v16, h53, hx⟩ := bind_elim hx
    simp only [go_sem, seval, c48, a50, b51, c52]
    repeat refine And.intro (by first | omega | (simp; done) | (simp; omega)) ?_
    refine VCl.pure rfl (by simp only [go_sem, seval, c48, a50, b51, c52]; try simp) (blueprint_small_1_ok v15 _ h53) (by simp only [go_sem, seval, c48, a50, b51, c52]; try simp) (by simp only [go_sem, seval, c48, a50, b51, c52]; try simp) (by simp only [go_sem, seval, c48, a50, b51, c52]; try simp) (by simp only [go_sem, seval, c48, a50, b51, c52]; try simp) (by simp only [go_sem, seval, c48, a50, b51, c52]; try simp) (by simp only [go_sem, seval, c48, a50, b51, c52]; try simp) ?_
    simp only [go_sem, seval, c48, a50, b51, c52]
    refine hK _ ?_
    clear hK K
    refine Walk.condO rfl hx (fun c54 hx => ?_) (fun c54 hx => ?_)
    · refine Walk.seq (Walk.region' rfl fun K hK => ?_)
      simp only [go_sem, seval, c48, a50, b51, c52, c54]
      refine hK _ ?_
      clear hK K
      obtain ⟨z55, e56, hx⟩ := exit_elim hx
      rw [hr46 z55 e56] at hx
      obtain rfl := Option.some.inj hx
      exact Walk.ret ⟨by simp [c48, a50, b51, c52, c54], by simp [c48, a50, b51, c52, c54]⟩
    refine Walk.skip (Walk.inBlock (Walk.region' rfl fun K hK => ?_))
    simp only [go_sem, seval, c48, a50, b51, c52, c54]
    refine hK _ ?_
    clear hK K
    exact Walk.weaken _ (by simp [c48, a50, b51, c52, c54] <;> omega) (by simp [c48, a50, b51, c52, c54] <;> omega) (ih45 _ (cont_elim hx))
  refine Walk.exit rfl ?_
  obtain ⟨z57, e58, hx⟩ := exit_elim hx
  rw [hr46 z57 e58] at hx
  refine Walk.seq (Walk.region' rfl fun K hK => ?_)
  simp only [go_sem, seval, c48]
  refine hK _ ?_
  clear hK K
  obtain rfl := Option.some.inj hx
  exact Walk.ret ⟨by simp [c48], by simp [c48]⟩
noncomputable def slices_ContainsFunc_int__small_1 (v1 : List Int) : Option (Bool) :=
  (slices_IndexFunc_int__small_1 v1).bind fun v4 => some (decide (v4 ≥ 0) : Bool)
theorem slices_ContainsFunc_int__small_1_ok (v1 : List Int) (r : Bool) (hx : slices_ContainsFunc_int__small_1 v1 = some r) :
    ACalls Try.prog 64 [.d (.sl (List.map iD v1)), .fn 73 []] [] (.d (.bool r)) [] := by
  refine ACalls.of_sem (n := 9) 0 [4] (fn := Try.f64) Try.func64 rfl rfl (.one rfl) rfl (by simp) (by intro i; simp only [hget]; (repeat' split) <;> simp <;> omega) ?_
  unfold slices_ContainsFunc_int__small_1 at hx
  refine Walk.seq (Walk.region' rfl fun K hK => ?_)
  simp only [go_sem, seval]
  refine hK _ ?_
  clear hK K
  refine Walk.seq (Walk.region' rfl fun K hK => ?_)
  obtain ⟨v4, h2, hx⟩ := bind_elim hx
  simp only [go_sem, seval]
  refine VCl.pure rfl (by simp only [go_sem, seval]; try simp) (slices_IndexFunc_int__small_1_ok v1 _ h2) (by simp only [go_sem, seval]; try simp) (by simp only [go_sem, seval]; try simp) (by simp only [go_sem, seval]; try simp) (by simp only [go_sem, seval]; try simp) (by simp only [go_sem, seval]; try simp) (by simp only [go_sem, seval]; try simp) ?_
  simp only [go_sem, seval]
  refine hK _ ?_
  clear hK K
  obtain rfl := Option.some.inj hx
  exact Walk.ret ⟨by simp, by simp⟩
noncomputable def blueprint_small (v1 : List Int) : Option (Bool) :=
  (slices_ContainsFunc_int__small_1 v1).bind fun v4 => some (!v4 : Bool)
theorem blueprint_small_ok (v1 : List Int) (r : Bool) (hx : blueprint_small v1 = some r) :
    ACalls Try.prog 63 [.d (.sl (List.map iD v1))] [] (.d (.bool r)) [] := by
  refine ACalls.of_sem (n := 6) 0 [2] (fn := Try.f63) Try.func63 rfl rfl (.one rfl) rfl (by simp) (by intro i; simp only [hget]; (repeat' split) <;> simp <;> omega) ?_
  unfold blueprint_small at hx
  refine Walk.seq (Walk.region' rfl fun K hK => ?_)
  simp only [go_sem, seval]
  refine hK _ ?_
  clear hK K
  refine Walk.seq (Walk.region' rfl fun K hK => ?_)
  obtain ⟨v4, h2, hx⟩ := bind_elim hx
  simp only [go_sem, seval]
  refine VCl.pure rfl (by simp only [go_sem, seval]; try simp) (slices_ContainsFunc_int__small_1_ok v1 _ h2) (by simp only [go_sem, seval]; try simp) (by simp only [go_sem, seval]; try simp) (by simp only [go_sem, seval]; try simp) (by simp only [go_sem, seval]; try simp) (by simp only [go_sem, seval]; try simp) (by simp only [go_sem, seval]; try simp) ?_
  simp only [go_sem, seval]
  refine hK _ ?_
  clear hK K
  obtain rfl := Option.some.inj hx
  exact Walk.ret ⟨by simp, by simp⟩
noncomputable def blueprint_Valid_l0 (v2 : List Row) (v1 : List Int) (v17 : Int) : Option ((Int) ⊕ (Bool)) :=
  bif decide (v17 < (v2.length : Int)) then ((rd v2 v17).bind fun v20 => bif decide (¬ (v20.Coefs.length : Int) = (v1.length : Int)) then (exitO (some (false : Bool))) else ((blueprint_small v20.Coefs).bind fun v21 => bif !v21 then (exitO (some (false : Bool))) else (bif decide ((max v20.Least v20.Most) > 1000000) then (exitO (some (false : Bool))) else (bif decide ((min v20.Least v20.Most) < (-1000000)) then (exitO (some (false : Bool))) else (contO (IntKind.i64.wrap (v17 + 1) : Int)))))) else (exitO (some (true : Bool)))
noncomputable def blueprint_Valid (v1 : List Int) (v2 : List Row) : Option (Bool) :=
  bif decide ((v1.length : Int) > 12) then (some (false : Bool)) else ((blueprint_in 10000 v1).bind fun v14 => bif !v14 then (some (false : Bool)) else (bif decide ((v2.length : Int) > 60) then (some (false : Bool)) else (iter (fun g : Int => blueprint_Valid_l0 v2 v1 g) 0)))
theorem blueprint_Valid_ok (v1 : List Int) (v2 : List Row) (r : Bool) (hx : blueprint_Valid v1 v2 = some r) :
    ACalls Try.prog 40 [.agg [.d (.sl (List.map iD v1)), .d (.sl (List.map Row.D v2))]] [] (.d (.bool r)) [] := by
  refine ACalls.of_sem (n := 58) 0 [2] (fn := Try.f40) Try.func40 rfl rfl (.one rfl) rfl (by simp) (by intro i; simp only [hget]; (repeat' split) <;> simp <;> omega) ?_
  unfold blueprint_Valid at hx
  refine Walk.seq (Walk.region' rfl fun K hK => ?_)
  simp only [go_sem, seval]
  refine hK _ ?_
  clear hK K
  refine Walk.seq (Walk.seq (Walk.region' rfl fun K hK => ?_))
  simp only [go_sem, seval]
  refine VGdO hx (fun g51 hx => ?_) (fun g51 hx => ?_)
  · simp only [go_sem, seval, g51]
    refine hK _ ?_
    clear hK K
    refine Walk.condT rfl (Walk.seq (Walk.region' rfl fun K hK => ?_))
    simp only [go_sem, seval, g51]
    refine hK _ ?_
    clear hK K
    obtain rfl := Option.some.inj hx
    exact Walk.ret ⟨by simp [g51], by simp [g51]⟩
  obtain ⟨v14, h52, hx⟩ := bind_elim hx
  simp only [go_sem, seval, g51]
  refine VCl.pure rfl (by simp only [go_sem, seval, g51]; try simp) (blueprint_in_ok 10000 v1 _ h52) (by simp only [go_sem, seval, g51]; try simp) (by simp only [go_sem, seval, g51]; try simp) (by simp only [go_sem, seval, g51]; try simp) (by simp only [go_sem, seval, g51]; try simp) (by simp only [go_sem, seval, g51]; try simp) (by simp only [go_sem, seval, g51]; try simp) ?_
  simp only [go_sem, seval, g51]
  refine VGdO hx (fun g53 hx => ?_) (fun g53 hx => ?_)
  · simp only [go_sem, seval, g51, g53]
    refine hK _ ?_
    clear hK K
    refine Walk.condT rfl (Walk.seq (Walk.region' rfl fun K hK => ?_))
    simp only [go_sem, seval, g51, g53]
    refine hK _ ?_
    clear hK K
    obtain rfl := Option.some.inj hx
    exact Walk.ret ⟨by simp [g51, g53], by simp [g51, g53]⟩
  simp only [go_sem, seval, g51, g53]
  refine hK _ ?_
  clear hK K
  refine Walk.condO rfl hx (fun c55 hx => ?_) (fun c55 hx => ?_)
  · refine Walk.seq (Walk.region' rfl fun K hK => ?_)
    simp only [go_sem, seval, g51, g53, c55]
    refine hK _ ?_
    clear hK K
    obtain rfl := Option.some.inj hx
    exact Walk.ret ⟨by simp [g51, g53, c55], by simp [g51, g53, c55]⟩
  refine Walk.skip (Walk.seq (Walk.seq (Walk.region' rfl fun K hK => ?_)))
  simp only [go_sem, seval, g51, g53, c55]
  refine hK _ ?_
  clear hK K
  refine Walk.block (Walk.loop ?_)
  refine Walk.weaken ⟨[(1, .box 1 0), (22, .d (.sl (List.map Row.D v2))), (23, .d (.int .i64 (v2.length : Int))), (24, .d (.int .i64 0))], [(1, some (.box [.d (.sl (List.map iD v1)), .d (.sl (List.map Row.D v2))]))]⟩ (by simp [g51, g53, c55] <;> omega) (by simp [g51, g53, c55] <;> omega) ?_
  refine Walk.iter (σ := Int) (fun g => ⟨[(1, .box 1 0), (22, .d (.sl (List.map Row.D v2))), (23, .d (.int .i64 (v2.length : Int))), (24, .d (.int .i64 g))], [(1, some (.box [.d (.sl (List.map iD v1)), .d (.sl (List.map Row.D v2))]))]⟩) (fun g : Int => blueprint_Valid_l0 v2 v1 g) _ (fun v17 y101 hx ih78 hr79 => ?_) 0 hx
  unfold blueprint_Valid_l0 at hx
  try dsimp only at hx ⊢
  refine Walk.seq (Walk.region' rfl fun K hK => ?_)
  simp only [go_sem, seval, g51, g53, c55]
  refine hK _ ?_
  clear hK K
  refine Walk.seq (Walk.condO rfl hx (fun c81 hx => ?_) (fun c81 hx => ?_))
  · refine Walk.skip (Walk.seq (Walk.block (Walk.seq (Walk.region' rfl fun K hK => ?_))))
    obtain ⟨v20, r82, a83, b84, c85, hx⟩ := rd_elim hx
    simp only [go_sem, seval, g51, g53, c55, c81, a83, b84, c85]
    repeat refine And.intro (by first | omega | (simp; done) | (simp; omega)) ?_
    refine hK _ ?_
    clear hK K
    refine Walk.seq (Walk.region' rfl fun K hK => ?_)
    simp only [go_sem, seval, g51, g53, c55, c81, a83, b84, c85]
    refine VGdO hx (fun g86 hx => ?_) (fun g86 hx => ?_)
    · simp only [go_sem, seval, g51, g53, c55, c81, a83, b84, c85, g86]
      refine hK _ ?_
      clear hK K
      refine Walk.condT rfl (Walk.seq (Walk.region' rfl fun K hK => ?_))
      simp only [go_sem, seval, g51, g53, c55, c81, a83, b84, c85, g86]
      refine hK _ ?_
      clear hK K
      obtain ⟨z87, e88, hx⟩ := exit_elim hx
      rw [hr79 z87 e88] at hx
      obtain rfl := Option.some.inj hx
      exact Walk.ret ⟨by simp [g51, g53, c55, c81, a83, b84, c85, g86], by simp [g51, g53, c55, c81, a83, b84, c85, g86]⟩
    obtain ⟨v21, h89, hx⟩ := bind_elim hx
    simp only [go_sem, seval, g51, g53, c55, c81, a83, b84, c85, g86]
    refine VCl.pure rfl (by simp only [go_sem, seval, g51, g53, c55, c81, a83, b84, c85, g86]; try simp) (blueprint_small_ok v20.Coefs _ h89) (by simp only [go_sem, seval, g51, g53, c55, c81, a83, b84, c85, g86]; try simp) (by simp only [go_sem, seval, g51, g53, c55, c81, a83, b84, c85, g86]; try simp) (by simp only [go_sem, seval, g51, g53, c55, c81, a83, b84, c85, g86]; try simp) (by simp only [go_sem, seval, g51, g53, c55, c81, a83, b84, c85, g86]; try simp) (by simp only [go_sem, seval, g51, g53, c55, c81, a83, b84, c85, g86]; try simp) (by simp only [go_sem, seval, g51, g53, c55, c81, a83, b84, c85, g86]; try simp) ?_
    simp only [go_sem, seval, g51, g53, c55, c81, a83, b84, c85, g86]
    refine VGdO hx (fun g90 hx => ?_) (fun g90 hx => ?_)
    · simp only [go_sem, seval, g51, g53, c55, c81, a83, b84, c85, g86, g90]
      refine hK _ ?_
      clear hK K
      refine Walk.condT rfl (Walk.seq (Walk.region' rfl fun K hK => ?_))
      simp only [go_sem, seval, g51, g53, c55, c81, a83, b84, c85, g86, g90]
      refine hK _ ?_
      clear hK K
      obtain ⟨z91, e92, hx⟩ := exit_elim hx
      rw [hr79 z91 e92] at hx
      obtain rfl := Option.some.inj hx
      exact Walk.ret ⟨by simp [g51, g53, c55, c81, a83, b84, c85, g86, g90], by simp [g51, g53, c55, c81, a83, b84, c85, g86, g90]⟩
    simp only [go_sem, seval, g51, g53, c55, c81, a83, b84, c85, g86, g90]
    refine VGdO hx (fun g93 hx => ?_) (fun g93 hx => ?_)
    · simp only [go_sem, seval, g51, g53, c55, c81, a83, b84, c85, g86, g90, g93]
      refine hK _ ?_
      clear hK K
      refine Walk.condT rfl (Walk.seq (Walk.region' rfl fun K hK => ?_))
      simp only [go_sem, seval, g51, g53, c55, c81, a83, b84, c85, g86, g90, g93]
      refine hK _ ?_
      clear hK K
      obtain ⟨z94, e95, hx⟩ := exit_elim hx
      rw [hr79 z94 e95] at hx
      obtain rfl := Option.some.inj hx
      exact Walk.ret ⟨by simp [g51, g53, c55, c81, a83, b84, c85, g86, g90, g93], by simp [g51, g53, c55, c81, a83, b84, c85, g86, g90, g93]⟩
    simp only [go_sem, seval, g51, g53, c55, c81, a83, b84, c85, g86, g90, g93]
    refine hK _ ?_
    clear hK K
    refine Walk.condO rfl hx (fun c96 hx => ?_) (fun c96 hx => ?_)
    · refine Walk.seq (Walk.region' rfl fun K hK => ?_)
      simp only [go_sem, seval, g51, g53, c55, c81, a83, b84, c85, g86, g90, g93, c96]
      refine hK _ ?_
      clear hK K
      obtain ⟨z97, e98, hx⟩ := exit_elim hx
      rw [hr79 z97 e98] at hx
      obtain rfl := Option.some.inj hx
      exact Walk.ret ⟨by simp [g51, g53, c55, c81, a83, b84, c85, g86, g90, g93, c96], by simp [g51, g53, c55, c81, a83, b84, c85, g86, g90, g93, c96]⟩
    refine Walk.skip (Walk.inBlock (Walk.region' rfl fun K hK => ?_))
    simp only [go_sem, seval, g51, g53, c55, c81, a83, b84, c85, g86, g90, g93, c96]
    refine hK _ ?_
    clear hK K
    exact Walk.weaken _ (by simp [g51, g53, c55, c81, a83, b84, c85, g86, g90, g93, c96] <;> omega) (by simp [g51, g53, c55, c81, a83, b84, c85, g86, g90, g93, c96] <;> omega) (ih78 _ (cont_elim hx))
  refine Walk.exit rfl ?_
  obtain ⟨z99, e100, hx⟩ := exit_elim hx
  rw [hr79 z99 e100] at hx
  refine Walk.seq (Walk.region' rfl fun K hK => ?_)
  simp only [go_sem, seval, g51, g53, c55, c81]
  refine hK _ ?_
  clear hK K
  obtain rfl := Option.some.inj hx
  exact Walk.ret ⟨by simp [g51, g53, c55, c81], by simp [g51, g53, c55, c81]⟩
noncomputable def optimality_belongs_1 (v1 : Int) : Option (Bool) :=
  bif decide (v1 < (-1)) then (some (true : Bool)) else (some (decide (v1 > 1) : Bool))
theorem optimality_belongs_1_ok (v1 : Int) (r : Bool) (hx : optimality_belongs_1 v1 = some r) :
    ACalls Try.prog 65 [.d (.int .i64 v1)] [] (.d (.bool r)) [] := by
  refine ACalls.of_sem (n := 9) 0 [2] (fn := Try.f65) Try.func65 rfl rfl (.one rfl) rfl (by simp) (by intro i; simp only [hget]; (repeat' split) <;> simp <;> omega) ?_
  unfold optimality_belongs_1 at hx
  refine Walk.seq (Walk.region' rfl fun K hK => ?_)
  simp only [go_sem, seval]
  refine hK _ ?_
  clear hK K
  refine Walk.seq (Walk.region' rfl fun K hK => ?_)
  simp only [go_sem, seval]
  refine VGdO hx (fun g2 hx => ?_) (fun g2 hx => ?_)
  · simp only [go_sem, seval, g2]
    refine hK _ ?_
    clear hK K
    obtain rfl := Option.some.inj hx
    exact Walk.ret ⟨by simp [g2], by simp [g2]⟩
  simp only [go_sem, seval, g2]
  refine hK _ ?_
  clear hK K
  obtain rfl := Option.some.inj hx
  exact Walk.ret ⟨by simp [g2], by simp [g2]⟩
noncomputable def slices_IndexFunc_int__belongs_1_l0 (v1 : List Int) (v12 : Int) : Option ((Int) ⊕ (Int)) :=
  bif decide (v12 < (v1.length : Int)) then ((rd v1 v12).bind fun v15 => (optimality_belongs_1 v15).bind fun v16 => bif v16 then (exitO (some (v12 : Int))) else (contO (IntKind.i64.wrap (v12 + 1) : Int))) else (exitO (some (-1 : Int)))
noncomputable def slices_IndexFunc_int__belongs_1 (v1 : List Int) : Option (Int) :=
  iter (fun g : Int => slices_IndexFunc_int__belongs_1_l0 v1 g) 0
theorem slices_IndexFunc_int__belongs_1_ok (v1 : List Int) (r : Int) (hx : slices_IndexFunc_int__belongs_1 v1 = some r) :
    ACalls Try.prog 74 [.d (.sl (List.map iD v1)), .fn 65 []] [] (.d (.int .i64 r)) [] := by
  refine ACalls.of_sem (n := 19) 0 [4] (fn := Try.f74) Try.func74 rfl rfl (.one rfl) rfl (by simp) (by intro i; simp only [hget]; (repeat' split) <;> simp <;> omega) ?_
  unfold slices_IndexFunc_int__belongs_1 at hx
  refine Walk.seq (Walk.region' rfl fun K hK => ?_)
  simp only [go_sem, seval]
  refine hK _ ?_
  clear hK K
  refine Walk.seq (Walk.seq (Walk.region' rfl fun K hK => ?_))
  simp only [go_sem, seval]
  refine hK _ ?_
  clear hK K
  refine Walk.block (Walk.loop ?_)
  refine Walk.weaken ⟨[(0, .d (.sl (List.map iD v1))), (1, .fn 65 []), (7, .d (.int .i64 (v1.length : Int))), (8, .d (.int .i64 0))], []⟩ (by simp <;> omega) (by simp <;> omega) ?_
  refine Walk.iter (σ := Int) (fun g => ⟨[(0, .d (.sl (List.map iD v1))), (1, .fn 65 []), (7, .d (.int .i64 (v1.length : Int))), (8, .d (.int .i64 g))], []⟩) (fun g : Int => slices_IndexFunc_int__belongs_1_l0 v1 g) _ (fun v12 y59 hx ih45 hr46 => ?_) 0 hx
  unfold slices_IndexFunc_int__belongs_1_l0 at hx
  try dsimp only at hx ⊢
  refine Walk.seq (Walk.region' rfl fun K hK => ?_)
  simp only [go_sem, seval]
  refine hK _ ?_
  clear hK K
  refine Walk.seq (Walk.condO rfl hx (fun c48 hx => ?_) (fun c48 hx => ?_))
  · refine Walk.skip (Walk.seq (Walk.block (Walk.seq (Walk.region' rfl fun K hK => ?_))))
    simp only [go_sem, seval, c48]
    refine hK _ ?_
    clear hK K
    refine Walk.seq (Walk.region' rfl fun K hK => ?_)
    obtain ⟨v15, r49, a50, b51, c52, hx⟩ := rd_elim hx
    obtain ⟨v16, h53, hx⟩ := bind_elim hx
    simp only [go_sem, seval, c48, a50, b51, c52]
    repeat refine And.intro (by first | omega | (simp; done) | (simp; omega)) ?_
    refine VCl.pure rfl (by simp only [go_sem, seval, c48, a50, b51, c52]; try simp) (optimality_belongs_1_ok v15 _ h53) (by simp only [go_sem, seval, c48, a50, b51, c52]; try simp) (by simp only [go_sem, seval, c48, a50, b51, c52]; try simp) (by simp only [go_sem, seval, c48, a50, b51, c52]; try simp) (by simp only [go_sem, seval, c48, a50, b51, c52]; try simp) (by simp only [go_sem, seval, c48, a50, b51, c52]; try simp) (by simp only [go_sem, seval, c48, a50, b51, c52]; try simp) ?_
    simp only [go_sem, seval, c48, a50, b51, c52]
    refine hK _ ?_
    clear hK K
    refine Walk.condO rfl hx (fun c54 hx => ?_) (fun c54 hx => ?_)
    · refine Walk.seq (Walk.region' rfl fun K hK => ?_)
      simp only [go_sem, seval, c48, a50, b51, c52, c54]
      refine hK _ ?_
      clear hK K
      obtain ⟨z55, e56, hx⟩ := exit_elim hx
      rw [hr46 z55 e56] at hx
      obtain rfl := Option.some.inj hx
      exact Walk.ret ⟨by simp [c48, a50, b51, c52, c54], by simp [c48, a50, b51, c52, c54]⟩
    refine Walk.skip (Walk.inBlock (Walk.region' rfl fun K hK => ?_))
    simp only [go_sem, seval, c48, a50, b51, c52, c54]
    refine hK _ ?_
    clear hK K
    exact Walk.weaken _ (by simp [c48, a50, b51, c52, c54] <;> omega) (by simp [c48, a50, b51, c52, c54] <;> omega) (ih45 _ (cont_elim hx))
  refine Walk.exit rfl ?_
  obtain ⟨z57, e58, hx⟩ := exit_elim hx
  rw [hr46 z57 e58] at hx
  refine Walk.seq (Walk.region' rfl fun K hK => ?_)
  simp only [go_sem, seval, c48]
  refine hK _ ?_
  clear hK K
  obtain rfl := Option.some.inj hx
  exact Walk.ret ⟨by simp [c48], by simp [c48]⟩
end Go.AX

