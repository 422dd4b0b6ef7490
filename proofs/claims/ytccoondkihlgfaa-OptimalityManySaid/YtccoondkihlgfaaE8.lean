import Derived.Test.YtccoondkihlgfaaE7
set_option linter.unusedVariables false
set_option linter.unusedSimpArgs false
set_option maxRecDepth 20000
set_option maxHeartbeats 4000000
namespace Go.AX
open Go.Proofs
attribute [local simp] spl_len take_snoc take_cons_drop cons_rep cons_tail iA bA take_set_len idsL_rep idsL_iA idsL_bA idsL_sA idsL_set_mem idsL_sub sA_def List.map_replicate frVs_setS frVs_self frV_arr take_map_len subE subH eget hget upE upV upH upO_refl upO_box upVs freshE freshH freshO AV.ids AV.idsL ids_box ids_arr frE frV_refl frV_arr frH frO_refl frO_box frVs newOk evalA AV.viewXs AV.viewX AV.viewXP AV.viewXPs AV.viewPs AV.viewP AV.flat AV.flatL D.flat arrsOnly flatObjs newNames subOf closedIn allSome dstOk newOrOld avD avDp zv_i64 zv_u8 zv_bool zv_nils zv_nilp zv_str retAV aLoad cut TI.isAgg nlE nlH nlO_refl nlO_box nlVs nlV_refl nlV_nil iD uD bD tD lD List.map_set ti2 ti3 ti4 ti5 ti6 ti7 ti8 ti9 ti10 ti11 ti12 ti13 ti14 ti15 ti16 ti17 ti18 ti19 ti21 ti22 ti23 ti25 ti26 ti27 ti32 ti33 ti34 ti41 ti42 ti50 ti51 ti56 ti60 ti61 ti63 ti64 ti74 ti76 ti89 ti92 ti96 ti97 ti98 ti99 ti100 ti101 ti102 ti104 ti105 ti106 ti107 ti108 Row.D Node.D
attribute [local go_sem] V1_none V1_some V_nil V_move V_assign V_pick V_bin V_un V_extract V_makeFunc V_convert V_nilCheck V_fieldAddr V_field V_load V_store V_indexAddr V_index V_slice V_slice0 V_alloc V_box V_build V_buildSlice V_makeSlice V_len V_min V_max V_append V_copy V_call V_guard VGs_some VG_tt VG_ff VG_tf VG_ft VG_u gslot ok fail po so aNew dstOk freshU addLog_none' addLog_some' St.step putL evalA eget hget argE freshE freshO freshH AV.ids AV.idsL AV.ok1 AV.cells ids_box ids_arr liveBox liveArr isArr isObj isBoxB aPick isNilC aNilEq aBin aUn aExtract aMakeFunc aConvert aNilCheck aFieldAddr aField cut aLen aIndexAddr aMin aMax aIndex bnd isInt aSlice aSlice0 aLoad aAlloc aBox aStore splice aMake aMakeBox aCopy cellsOf cellsOfP updIds newIds zv_i64 zv_u8 zv_bool zv_nils zv_nilp cond_bool cond_int TI.isAgg TK.isSl TK.el okL avDps avDp avD List.map_cons List.map_nil List.append_nil List.nil_append List.cons_append List.length_cons List.length_nil List.take_succ_cons List.take_zero List.drop_succ_cons List.drop_zero List.take_nil List.drop_nil List.headD_cons List.getD_cons_zero List.getD_cons_succ List.mem_cons List.not_mem_nil List.getElem?_cons_zero List.getElem?_cons_succ List.toList_toArray Option.getD_some Option.getD_none Option.bind_some Option.bind_none Option.map_some Option.map_none Option.getD Option.toList Nat.zero_add Nat.add_zero Nat.zero_le Nat.le_refl if_true if_false ite_self true_and and_true false_and and_false true_or or_true false_or or_false not_true_eq_false not_false_eq_true ne_eq cond_true cond_false Bool.true_eq_false Bool.false_eq_true forall_const decide_true decide_false implies_true true_implies and_self or_self Nat.succ_ne_zero Int.toNat_natCast Int.natCast_nonneg List.length_map decide_eq_true_eq AV.views AV.view AV.viewPs AV.viewP arrsOnly newNames List.length_append List.append_assoc Bool.not_true Bool.not_false AV.ok2 aBuild fillR fillP aBuildSlice dense elP aAppend esOf esOfP List.forall_mem_cons forall_eq_or_imp forall_eq zD zDp map_take' map_drop' iD uD bD tD lD iD_len uD_len bD_len tD_len lD_len LB Int.cast_ofNat_Int Int.natCast_zero Int.natCast_one head_len all_len List.head?_cons List.head?_nil Bool.not_not eq_self List.take_length zv_str aConv byteOf isByte map_bcell bytes_all str_map cellsEq cellsP AV.kd Bool.and_true Bool.true_and Bool.and_false Bool.false_and spl_map spl_len mkbox_i mkbox_b flat_iD dataL_iA dataL_bA zv_u64 flat_iD' flat_len dataL_tA dataL_ttA spl_mt spl_mtt mkbox_s splice_one take_cons_drop cons_rep cons_tail hd_set hd_set0 List.length_replicate iA bA sA_def List.set_set List.length_set idsL_iA idsL_bA idsL_sA idsL_setE idsL_rep List.append_eq Nat.mul_one ti2 ti3 ti4 ti5 ti6 ti7 ti8 ti9 ti10 ti11 ti12 ti13 ti14 ti15 ti16 ti17 ti18 ti19 ti21 ti22 ti23 ti25 ti26 ti27 ti32 ti33 ti34 ti41 ti42 ti50 ti51 ti56 ti60 ti61 ti63 ti64 ti74 ti76 ti89 ti92 ti96 ti97 ti98 ti99 ti100 ti101 ti102 ti104 ti105 ti106 ti107 ti108 Row.D Node.D Row.D_len Node.D_len
noncomputable def ref06_Ints_l0 (v1 : List Int) (v2 : List Int) (v13 : Int) : Option ((Int) ⊕ (Bool)) :=
  bif decide (v13 < (v1.length : Int)) then ((rd v1 v13).bind fun v16 => (rd v2 v13).bind fun v17 => bif decide (¬ v16 = v17) then (exitO (some (false : Bool))) else (contO (IntKind.i64.wrap (v13 + 1) : Int))) else (exitO (some (true : Bool)))
noncomputable def ref06_Ints (v1 : List Int) (v2 : List Int) : Option (Bool) :=
  bif decide (¬ (v1.length : Int) = (v2.length : Int)) then (some (false : Bool)) else (iter (fun g : Int => ref06_Ints_l0 v1 v2 g) 0)
theorem ref06_Ints_ok (v1 : List Int) (v2 : List Int) (r : Bool) (hx : ref06_Ints v1 v2 = some r) :
    ACalls Try.prog 24 [.d (.sl (List.map iD v1)), .d (.sl (List.map iD v2))] [] (.d (.bool r)) [] := by
  refine ACalls.of_sem (n := 26) 0 [4] (fn := Try.f24) Try.func24 rfl rfl (.one rfl) rfl (by simp) (by intro i; simp only [hget]; (repeat' split) <;> simp <;> omega) ?_
  unfold ref06_Ints at hx
  refine Walk.seq (Walk.region' rfl fun K hK => ?_)
  simp only [go_sem, seval]
  refine hK _ ?_
  clear hK K
  refine Walk.seq (Walk.seq (Walk.region' rfl fun K hK => ?_))
  simp only [go_sem, seval]
  refine hK _ ?_
  clear hK K
  refine Walk.condO rfl hx (fun c46 hx => ?_) (fun c46 hx => ?_)
  · refine Walk.seq (Walk.region' rfl fun K hK => ?_)
    simp only [go_sem, seval, c46]
    refine hK _ ?_
    clear hK K
    obtain rfl := Option.some.inj hx
    exact Walk.ret ⟨by simp [c46], by simp [c46]⟩
  refine Walk.skip (Walk.seq (Walk.seq (Walk.region' rfl fun K hK => ?_)))
  simp only [go_sem, seval, c46]
  refine hK _ ?_
  clear hK K
  refine Walk.block (Walk.loop ?_)
  refine Walk.weaken ⟨[(0, .d (.sl (List.map iD v1))), (1, .d (.sl (List.map iD v2))), (5, .d (.int .i64 0))], []⟩ (by simp [c46] <;> omega) (by simp [c46] <;> omega) ?_
  refine Walk.iter (σ := Int) (fun g => ⟨[(0, .d (.sl (List.map iD v1))), (1, .d (.sl (List.map iD v2))), (5, .d (.int .i64 g))], []⟩) (fun g : Int => ref06_Ints_l0 v1 v2 g) _ (fun v13 y89 hx ih71 hr72 => ?_) 0 hx
  unfold ref06_Ints_l0 at hx
  try dsimp only at hx ⊢
  refine Walk.seq (Walk.seq (Walk.region' rfl fun K hK => ?_))
  simp only [go_sem, seval, c46]
  refine hK _ ?_
  clear hK K
  refine Walk.condO rfl hx (fun c75 hx => ?_) (fun c75 hx => ?_)
  · refine Walk.skip (Walk.seq (Walk.block (Walk.seq (Walk.drawn' rfl mixed fun K hK => ?_))))
    obtain ⟨v16, r76, a77, b78, c79, hx⟩ := rd_elim hx
    obtain ⟨v17, r80, a81, b82, c83, hx⟩ := rd_elim hx
    simp only [go_sem, seval, c46, c75, a77, b78, c79, a81, b82, c83]
    repeat refine And.intro (by first | omega | (simp; done) | (simp; omega)) ?_
    refine hK _ _ (by kernel_rfl) (by simp [c46, c75, a77, b78, c79, a81, b82, c83]) ?_
    clear hK K
    refine Walk.condO rfl hx (fun c84 hx => ?_) (fun c84 hx => ?_)
    · refine Walk.seq (Walk.region' rfl fun K hK => ?_)
      simp only [go_sem, seval, c46, c75, a77, b78, c79, a81, b82, c83, c84]
      refine hK _ ?_
      clear hK K
      obtain ⟨z85, e86, hx⟩ := exit_elim hx
      rw [hr72 z85 e86] at hx
      obtain rfl := Option.some.inj hx
      exact Walk.ret ⟨by simp [c46, c75, a77, b78, c79, a81, b82, c83, c84], by simp [c46, c75, a77, b78, c79, a81, b82, c83, c84]⟩
    refine Walk.skip (Walk.inBlock (Walk.region' rfl fun K hK => ?_))
    simp only [go_sem, seval, c46, c75, a77, b78, c79, a81, b82, c83, c84]
    refine hK _ ?_
    clear hK K
    exact Walk.weaken _ (by simp [c46, c75, a77, b78, c79, a81, b82, c83, c84] <;> omega) (by simp [c46, c75, a77, b78, c79, a81, b82, c83, c84] <;> omega) (ih71 _ (cont_elim hx))
  refine Walk.exit rfl ?_
  obtain ⟨z87, e88, hx⟩ := exit_elim hx
  rw [hr72 z87 e88] at hx
  refine Walk.seq (Walk.region' rfl fun K hK => ?_)
  simp only [go_sem, seval, c46, c75]
  refine hK _ ?_
  clear hK K
  obtain rfl := Option.some.inj hx
  exact Walk.ret ⟨by simp [c46, c75], by simp [c46, c75]⟩
noncomputable def law09_OptimalityStates_l0 (v24 : List (List Int) × Int) (v25 : List (List Int) × Int) (v29 : Int) : Option ((Int) ⊕ (Bool)) :=
  bif decide (v29 < (v24.1.length : Int)) then ((rd v24.1 v29).bind fun v33 => (rd v25.1 v29).bind fun v34 => (ref06_Ints v33 v34).bind fun v35 => bif !v35 then (exitO (some (false : Bool))) else (contO (IntKind.i64.wrap (v29 + 1) : Int))) else (exitO ((law09_awake).bind fun v36 => some (v36 : Bool)))
noncomputable def law09_OptimalityStates (v1 : List Int) : Option (Bool) :=
  (mk_New v1).bind fun v20 => (mk_Tape_Program v20 0 5 10).bind fun v21 => (mk_Tape_Tree v20 v21.1 v21.2.2 v21.2.1 false).bind fun v22 => (mk_Tape_Bent v20 v22.1 v22.2 3).bind fun v23 => (optimality_States v21.2.2 v21.2.1 v23.1).bind fun v24 => (ref09_States v21.2.2 v21.2.1 v23.1).bind fun v25 => bif decide (¬ (v24.1.length : Int) = (v25.1.length : Int)) then (some (false : Bool)) else (bif decide (¬ v24.2 = v25.2) then (some (false : Bool)) else (iter (fun g : Int => law09_OptimalityStates_l0 v24 v25 g) 0))
theorem law09_OptimalityStates_ok (v1 : List Int) (r : Bool) (hx : law09_OptimalityStates v1 = some r) :
    ACalls Try.prog 4 [.d (.sl (List.map iD v1))] [] (.d (.bool r)) [] := by
  refine ACalls.of_sem (n := 59) 0 [2] (fn := Try.f4) Try.func4 rfl rfl (.one rfl) rfl (by simp) (by intro i; simp only [hget]; (repeat' split) <;> simp <;> omega) ?_
  unfold law09_OptimalityStates at hx
  refine Walk.seq (Walk.region' rfl fun K hK => ?_)
  simp only [go_sem, seval]
  refine hK _ ?_
  clear hK K
  refine Walk.seq (Walk.region' rfl fun K hK => ?_)
  obtain ⟨v20, h60, hx⟩ := bind_elim hx
  have w61 := ((mk_New_ok v1 _ h60).swap 2000 1005)
  simp only [renE, renL, AV.ren, AV.rens, AObj.ren, swp, Option.map_some, reduceIte, Nat.reduceEqDiff] at w61
  simp only [go_sem, seval]
  refine VCl.sub [] [] rfl (by simp only [go_sem, seval, AV.viewXs, AV.viewX, avD]; try simp) (w61) (by simp) (by simp) (by simp) (by simp) (by simp) (by simp) (by simp) (by simp) (by simp) (by simp) ?_
  simp only [go_sem, seval]
  refine hK _ ?_
  clear hK K
  refine Walk.weaken ⟨[(3, .box 1005 0)], [(1005, some (.box [.d (.sl (List.map iD v20)), .d (.int .i64 0)]))]⟩ (by simp <;> omega) (by simp <;> omega) ?_
  refine Walk.seq (Walk.region' rfl fun K hK => ?_)
  obtain ⟨v21, h62, hx⟩ := bind_elim hx
  have w63 := ((((mk_Tape_Program_ok v20 0 5 10 _ h62).swap 0 1005).swap 2001 1006).swap 2002 1007)
  simp only [renE, renL, AV.ren, AV.rens, AObj.ren, swp, Option.map_some, reduceIte, Nat.reduceEqDiff] at w63
  simp only [go_sem, seval]
  refine VCl.sub [(1005, some (.box [.d (.sl (List.map iD v20)), .d (.int .i64 0)]))] [] rfl (by simp only [go_sem, seval, AV.viewXs, AV.viewX, avD]; try simp) (w63) (by simp) (by simp) (by simp) (by simp) (by simp) (by simp) (by simp) (by simp) (by simp) (by simp) ?_
  simp only [go_sem, seval]
  refine hK _ ?_
  clear hK K
  refine Walk.weaken ⟨[(3, .box 1005 0), (4, .box 4 0)], [(4, some (.box [.arr 1006 0 v21.2.2.length, .arr 1007 0 v21.2.1.length])), (1005, some (.box [.d (.sl (List.map iD v20)), .d (.int .i64 v21.1)])), (1006, some (.arr 3 1 (List.map iD v21.2.2))), (1007, some (.arr 64 3 (List.map Row.D v21.2.1)))]⟩ (by simp <;> omega) (by simp <;> omega) ?_
  refine Walk.seq ?_
  refine Walk.weaken ⟨[(3, .box 1005 0), (4, .box 4 0)], [(4, some (.box [.arr 1006 0 v21.2.2.length, .arr 1007 0 v21.2.1.length])), (1005, some (.box [.d (.sl (List.map iD v20)), .d (.int .i64 v21.1)])), (1006, some (.arr 3 1 (List.map iD v21.2.2))), (1007, some (.arr 64 3 (List.map Row.D v21.2.1)))]⟩ (by simp <;> omega) (by simp <;> omega) ?_
  refine Walk.freeze 1006 3 1 (List.map iD v21.2.2) [(3, .box 1005 0), (4, .box 4 0)] [(4, some (.box [.d (.sl (List.map iD v21.2.2)), .arr 1007 0 v21.2.1.length])), (1005, some (.box [.d (.sl (List.map iD v20)), .d (.int .i64 v21.1)])), (1007, some (.arr 64 3 (List.map Row.D v21.2.1)))] (by simp) (by simp) (by simp) ?_
  refine Walk.weaken ⟨[(3, .box 1005 0), (4, .box 4 0)], [(4, some (.box [.d (.sl (List.map iD v21.2.2)), .arr 1007 0 v21.2.1.length])), (1005, some (.box [.d (.sl (List.map iD v20)), .d (.int .i64 v21.1)])), (1007, some (.arr 64 3 (List.map Row.D v21.2.1)))]⟩ (by simp <;> omega) (by simp <;> omega) ?_
  refine Walk.freeze 1007 64 3 (List.map Row.D v21.2.1) [(3, .box 1005 0), (4, .box 4 0)] [(4, some (.box [.d (.sl (List.map iD v21.2.2)), .d (.sl (List.map Row.D v21.2.1))])), (1005, some (.box [.d (.sl (List.map iD v20)), .d (.int .i64 v21.1)]))] (by simp) (by simp) (by simp) ?_
  refine Walk.region' rfl fun K hK => ?_
  obtain ⟨v22, h64, hx⟩ := bind_elim hx
  have w65 := (((mk_Tape_Tree_ok v20 v21.1 v21.2.2 v21.2.1 false _ h64).swap 0 1005).swap 2000 1008)
  simp only [renE, renL, AV.ren, AV.rens, AObj.ren, swp, Option.map_some, reduceIte, Nat.reduceEqDiff] at w65
  simp only [go_sem, seval]
  refine VCl.sub [(1005, some (.box [.d (.sl (List.map iD v20)), .d (.int .i64 v21.1)]))] [] rfl (by simp only [go_sem, seval, AV.viewXs, AV.viewX, avD]; try simp) (w65) (by simp) (by simp) (by simp) (by simp) (by simp) (by simp) (by simp) (by simp) (by simp) (by simp) ?_
  obtain ⟨v23, h66, hx⟩ := bind_elim hx
  have w67 := ((mk_Tape_Bent_ok v20 v22.1 v22.2 3 _ h66).swap 0 1005)
  simp only [renE, renL, AV.ren, AV.rens, AObj.ren, swp, Option.map_some, reduceIte, Nat.reduceEqDiff] at w67
  simp only [go_sem, seval]
  refine VCl.sub [(1005, some (.box [.d (.sl (List.map iD v20)), .d (.int .i64 v22.1)]))] [1008] rfl (by simp only [go_sem, seval, AV.viewXs, AV.viewX, avD]; try simp) (w67) (by simp) (by simp) (by simp) (by simp) (by simp) (by simp) (by simp) (by simp) (by simp) (by simp) ?_
  simp only [go_sem, seval]
  refine hK _ ?_
  clear hK K
  refine Walk.weaken ⟨[(4, .box 4 0), (5, .d (.sl (List.map Node.D v23.1)))], [(4, some (.box [.d (.sl (List.map iD v21.2.2)), .d (.sl (List.map Row.D v21.2.1))]))]⟩ (by simp <;> omega) (by simp <;> omega) ?_
  refine Walk.seq (Walk.region' rfl fun K hK => ?_)
  obtain ⟨v24, h68, hx⟩ := bind_elim hx
  simp only [go_sem, seval]
  refine VCl.pure rfl (by simp only [go_sem, seval]; try simp) (optimality_States_ok v21.2.2 v21.2.1 v23.1 _ h68) (by simp only [go_sem, seval]; try simp) (by simp only [go_sem, seval]; try simp) (by simp only [go_sem, seval]; try simp) (by simp only [go_sem, seval]; try simp) (by simp only [go_sem, seval]; try simp) (by simp only [go_sem, seval]; try simp) ?_
  simp only [go_sem, seval]
  refine hK _ ?_
  clear hK K
  refine Walk.seq (Walk.region' rfl fun K hK => ?_)
  obtain ⟨v25, h69, hx⟩ := bind_elim hx
  simp only [go_sem, seval]
  refine VCl.pure rfl (by simp only [go_sem, seval]; try simp) (ref09_States_ok v21.2.2 v21.2.1 v23.1 _ h69) (by simp only [go_sem, seval]; try simp) (by simp only [go_sem, seval]; try simp) (by simp only [go_sem, seval]; try simp) (by simp only [go_sem, seval]; try simp) (by simp only [go_sem, seval]; try simp) (by simp only [go_sem, seval]; try simp) ?_
  simp only [go_sem, seval]
  refine hK _ ?_
  clear hK K
  refine Walk.seq (Walk.seq (Walk.region' rfl fun K hK => ?_))
  simp only [go_sem, seval]
  refine VGdO hx (fun g72 hx => ?_) (fun g72 hx => ?_)
  · simp only [go_sem, seval, g72]
    refine hK _ ?_
    clear hK K
    refine Walk.condT rfl (Walk.seq (Walk.region' rfl fun K hK => ?_))
    simp only [go_sem, seval, g72]
    refine hK _ ?_
    clear hK K
    obtain rfl := Option.some.inj hx
    exact Walk.ret ⟨by simp [g72], by simp [g72]⟩
  simp only [go_sem, seval, g72]
  refine hK _ ?_
  clear hK K
  refine Walk.condO rfl hx (fun c74 hx => ?_) (fun c74 hx => ?_)
  · refine Walk.seq (Walk.region' rfl fun K hK => ?_)
    simp only [go_sem, seval, g72, c74]
    refine hK _ ?_
    clear hK K
    obtain rfl := Option.some.inj hx
    exact Walk.ret ⟨by simp [g72, c74], by simp [g72, c74]⟩
  refine Walk.skip (Walk.seq (Walk.seq (Walk.region' rfl fun K hK => ?_)))
  simp only [go_sem, seval, g72, c74]
  refine hK _ ?_
  clear hK K
  refine Walk.block (Walk.loop ?_)
  refine Walk.weaken ⟨[(6, .d (.sl (List.map (lD iD) v24.1))), (8, .d (.sl (List.map (lD iD) v25.1))), (10, .d (.int .i64 0))], []⟩ (by simp [g72, c74] <;> omega) (by simp [g72, c74] <;> omega) ?_
  refine Walk.iter (σ := Int) (fun g => ⟨[(6, .d (.sl (List.map (lD iD) v24.1))), (8, .d (.sl (List.map (lD iD) v25.1))), (10, .d (.int .i64 g))], []⟩) (fun g : Int => law09_OptimalityStates_l0 v24 v25 g) _ (fun v29 y121 hx ih101 hr102 => ?_) 0 hx
  unfold law09_OptimalityStates_l0 at hx
  try dsimp only at hx ⊢
  refine Walk.seq (Walk.seq (Walk.region' rfl fun K hK => ?_))
  simp only [go_sem, seval, g72, c74]
  refine hK _ ?_
  clear hK K
  refine Walk.condO rfl hx (fun c105 hx => ?_) (fun c105 hx => ?_)
  · refine Walk.skip (Walk.seq (Walk.block (Walk.seq (Walk.drawn' rfl mixed fun K hK => ?_))))
    obtain ⟨v33, r106, a107, b108, c109, hx⟩ := rd_elim hx
    obtain ⟨v34, r110, a111, b112, c113, hx⟩ := rd_elim hx
    obtain ⟨v35, h114, hx⟩ := bind_elim hx
    simp only [go_sem, seval, g72, c74, c105, a107, b108, c109, a111, b112, c113]
    repeat refine And.intro (by first | omega | (simp; done) | (simp; omega)) ?_
    refine VCl.pure rfl (by simp only [go_sem, seval, g72, c74, c105, a107, b108, c109, a111, b112, c113]; try simp) (ref06_Ints_ok v33 v34 _ h114) (by simp only [go_sem, seval, g72, c74, c105, a107, b108, c109, a111, b112, c113]; try simp) (by simp only [go_sem, seval, g72, c74, c105, a107, b108, c109, a111, b112, c113]; try simp) (by simp only [go_sem, seval, g72, c74, c105, a107, b108, c109, a111, b112, c113]; try simp) (by simp only [go_sem, seval, g72, c74, c105, a107, b108, c109, a111, b112, c113]; try simp) (by simp only [go_sem, seval, g72, c74, c105, a107, b108, c109, a111, b112, c113]; try simp) (by simp only [go_sem, seval, g72, c74, c105, a107, b108, c109, a111, b112, c113]; try simp) ?_
    simp only [go_sem, seval, g72, c74, c105, a107, b108, c109, a111, b112, c113]
    refine hK _ _ (by kernel_rfl) (by simp [g72, c74, c105, a107, b108, c109, a111, b112, c113]) ?_
    clear hK K
    refine Walk.condO rfl hx (fun c115 hx => ?_) (fun c115 hx => ?_)
    · refine Walk.seq (Walk.region' rfl fun K hK => ?_)
      simp only [go_sem, seval, g72, c74, c105, a107, b108, c109, a111, b112, c113, c115]
      refine hK _ ?_
      clear hK K
      obtain ⟨z116, e117, hx⟩ := exit_elim hx
      rw [hr102 z116 e117] at hx
      obtain rfl := Option.some.inj hx
      exact Walk.ret ⟨by simp [g72, c74, c105, a107, b108, c109, a111, b112, c113, c115], by simp [g72, c74, c105, a107, b108, c109, a111, b112, c113, c115]⟩
    refine Walk.skip (Walk.inBlock (Walk.region' rfl fun K hK => ?_))
    simp only [go_sem, seval, g72, c74, c105, a107, b108, c109, a111, b112, c113, c115]
    refine hK _ ?_
    clear hK K
    exact Walk.weaken _ (by simp [g72, c74, c105, a107, b108, c109, a111, b112, c113, c115] <;> omega) (by simp [g72, c74, c105, a107, b108, c109, a111, b112, c113, c115] <;> omega) (ih101 _ (cont_elim hx))
  refine Walk.exit rfl ?_
  obtain ⟨z118, e119, hx⟩ := exit_elim hx
  rw [hr102 z118 e119] at hx
  refine Walk.seq (Walk.region' rfl fun K hK => ?_)
  obtain ⟨v36, h120, hx⟩ := bind_elim hx
  simp only [go_sem, seval, g72, c74, c105]
  refine VCl.pure rfl (by simp only [go_sem, seval, g72, c74, c105]; try simp) (law09_awake_ok _ h120) (by simp only [go_sem, seval, g72, c74, c105]; try simp) (by simp only [go_sem, seval, g72, c74, c105]; try simp) (by simp only [go_sem, seval, g72, c74, c105]; try simp) (by simp only [go_sem, seval, g72, c74, c105]; try simp) (by simp only [go_sem, seval, g72, c74, c105]; try simp) (by simp only [go_sem, seval, g72, c74, c105]; try simp) ?_
  simp only [go_sem, seval, g72, c74, c105]
  refine hK _ ?_
  clear hK K
  obtain rfl := Option.some.inj hx
  exact Walk.ret ⟨by simp [g72, c74, c105], by simp [g72, c74, c105]⟩
noncomputable def ref09_Proved_j1 (v3 : List Node) (v42 : Int) (v32 : List (List Int) × Int) (v1 : List Int) (v2 : List Row) (v41 : Bool) (v40 : Int) : Option ((Int × Bool × Int) ⊕ (Int × Bool × Int)) :=
  (rd v3 v42).bind fun v54 => bif decide (v54.Kind = 3) then ((rd v32.1 v42).bind fun v55 => (ref09_Bound v1 v2 v55 v54.Kind v54.Var v54.Zero v54.One v54.Row v54.Num v54.Den).bind fun v56 => bif !v41 then (contO ((v56.1, true, IntKind.i64.wrap (v42 + 1)) : Int × Bool × Int)) else (bif decide (v56.1 < v40) then (contO ((v56.1, true, IntKind.i64.wrap (v42 + 1)) : Int × Bool × Int)) else (contO ((v40, true, IntKind.i64.wrap (v42 + 1)) : Int × Bool × Int)))) else (contO ((v40, v41, IntKind.i64.wrap (v42 + 1)) : Int × Bool × Int))
noncomputable def ref09_Proved_l0 (v3 : List Node) (v2 : List Row) (v32 : List (List Int) × Int) (v1 : List Int) (v40 : Int) (v41 : Bool) (v42 : Int) : Option ((Int × Bool × Int) ⊕ (Int × Bool × Int)) :=
  bif decide (v42 < (v3.length : Int)) then ((rd v3 v42).bind fun v57 => bif decide (v57.Kind = 2) then ((rd v2 v57.Row).bind fun v58 => (rd v32.1 v42).bind fun v59 => (ref08_Blocked v58.Coefs v58.Least v58.Most v59).bind fun v60 => bif !v60 then (exitO (some ((0, false, 29) : Int × Bool × Int))) else (ref09_Proved_j1 v3 v42 v32 v1 v2 v41 v40 )) else (ref09_Proved_j1 v3 v42 v32 v1 v2 v41 v40 )) else (exitO (some ((v40, v41, 0) : Int × Bool × Int)))
noncomputable def ref09_Proved (v1 : List Int) (v2 : List Row) (v3 : List Node) : Option (Int × Bool × Int) :=
  (ref09_States v1 v2 v3).bind fun v32 => bif decide (¬ v32.2 = 0) then (some ((0, false, v32.2) : Int × Bool × Int)) else (iter (fun g : Int × Bool × Int => ref09_Proved_l0 v3 v2 v32 v1 g.1 g.2.1 g.2.2) (0, false, 0))
theorem ref09_Proved_ok (v1 : List Int) (v2 : List Row) (v3 : List Node) (r : Int × Bool × Int) (hx : ref09_Proved v1 v2 v3 = some r) :
    ACalls Try.prog 27 [.agg [.d (.sl (List.map iD v1)), .d (.sl (List.map Row.D v2))], .d (.sl (List.map Node.D v3))] [] (.tup [.d (.int .i64 r.1), .d (.bool r.2.1), .d (.int .i64 r.2.2)]) [] := by
  refine ACalls.of_sem (n := 81) 0 [4, 5, 6] (fn := Try.f27) Try.func27 rfl rfl (.three rfl) rfl (by simp) (by intro i; simp only [hget]; (repeat' split) <;> simp <;> omega) ?_
  unfold ref09_Proved at hx
  refine Walk.seq (Walk.region' rfl fun K hK => ?_)
  simp only [go_sem, seval]
  refine hK _ ?_
  clear hK K
  refine Walk.seq (Walk.region' rfl fun K hK => ?_)
  obtain ⟨v32, h97, hx⟩ := bind_elim hx
  simp only [go_sem, seval]
  refine VCl.pure rfl (by simp only [go_sem, seval]; try simp) (ref09_States_ok v1 v2 v3 _ h97) (by simp only [go_sem, seval]; try simp) (by simp only [go_sem, seval]; try simp) (by simp only [go_sem, seval]; try simp) (by simp only [go_sem, seval]; try simp) (by simp only [go_sem, seval]; try simp) (by simp only [go_sem, seval]; try simp) ?_
  simp only [go_sem, seval]
  refine hK _ ?_
  clear hK K
  refine Walk.seq (Walk.seq (Walk.region' rfl fun K hK => ?_))
  simp only [go_sem, seval]
  refine hK _ ?_
  clear hK K
  refine Walk.condO rfl hx (fun c100 hx => ?_) (fun c100 hx => ?_)
  · refine Walk.seq (Walk.region' rfl fun K hK => ?_)
    simp only [go_sem, seval, c100]
    refine hK _ ?_
    clear hK K
    obtain rfl := Option.some.inj hx
    exact Walk.ret ⟨by simp [c100], by simp [c100]⟩
  refine Walk.skip (Walk.seq (Walk.region' rfl fun K hK => ?_))
  simp only [go_sem, seval, c100]
  refine hK _ ?_
  clear hK K
  refine Walk.seq (Walk.seq (Walk.region' rfl fun K hK => ?_))
  simp only [go_sem, seval, c100]
  refine hK _ ?_
  clear hK K
  refine Walk.block (Walk.loop ?_)
  refine Walk.weaken ⟨[(1, .d (.sl (List.map Node.D v3))), (2, .box 2 0), (7, .d (.sl (List.map (lD iD) v32.1))), (9, .d (.int .i64 0)), (10, .d (.bool false)), (11, .d (.int .i64 0))], [(2, some (.box [.d (.sl (List.map iD v1)), .d (.sl (List.map Row.D v2))]))]⟩ (by simp [c100] <;> omega) (by simp [c100] <;> omega) ?_
  refine Walk.iter (σ := Int × Bool × Int) (fun g => ⟨[(1, .d (.sl (List.map Node.D v3))), (2, .box 2 0), (7, .d (.sl (List.map (lD iD) v32.1))), (9, .d (.int .i64 g.1)), (10, .d (.bool g.2.1)), (11, .d (.int .i64 g.2.2))], [(2, some (.box [.d (.sl (List.map iD v1)), .d (.sl (List.map Row.D v2))]))]⟩) (fun g : Int × Bool × Int => ref09_Proved_l0 v3 v2 v32 v1 g.1 g.2.1 g.2.2) _ (fun g y211 hx ih159 hr160 => ?_) (0, false, 0) hx
  obtain ⟨v40, v41, v42⟩ := g
  unfold ref09_Proved_l0 at hx
  try dsimp only at hx ⊢
  refine Walk.seq (Walk.seq (Walk.region' rfl fun K hK => ?_))
  simp only [go_sem, seval, c100]
  refine hK _ ?_
  clear hK K
  refine Walk.condO rfl hx (fun c163 hx => ?_) (fun c163 hx => ?_)
  · refine Walk.skip (Walk.seq (Walk.block (Walk.seq (Walk.join (G := Unit) (fun g => ⟨[(1, .d (.sl (List.map Node.D v3))), (2, .box 2 0), (7, .d (.sl (List.map (lD iD) v32.1))), (9, .d (.int .i64 v40)), (10, .d (.bool v41)), (11, .d (.int .i64 v42))], [(2, some (.box [.d (.sl (List.map iD v1)), .d (.sl (List.map Row.D v2))]))]⟩) (fun g => ref09_Proved_j1 v3 v42 v32 v1 v2 v41 v40) hx (fun g hx => ?_) (fun fin179 => ?_)))))
    · unfold ref09_Proved_j1 at hx
      try dsimp only at hx ⊢
      refine Walk.seq (Walk.region' rfl fun K hK => ?_)
      obtain ⟨v54, r180, a181, b182, c183, hx⟩ := rd_elim hx
      simp only [go_sem, seval, c100, c163, a181, b182, c183]
      repeat refine And.intro (by first | omega | (simp; done) | (simp; omega)) ?_
      refine hK _ ?_
      clear hK K
      refine Walk.condO rfl hx (fun c184 hx => ?_) (fun c184 hx => ?_)
      · refine Walk.seq (Walk.drawn' rfl mixed fun K hK => ?_)
        obtain ⟨v55, r185, a186, b187, c188, hx⟩ := rd_elim hx
        obtain ⟨v56, h189, hx⟩ := bind_elim hx
        simp only [go_sem, seval, c100, c163, a181, b182, c183, c184, a186, b187, c188]
        repeat refine And.intro (by first | omega | (simp; done) | (simp; omega)) ?_
        refine VCl.pure rfl (by simp only [go_sem, seval, c100, c163, a181, b182, c183, c184, a186, b187, c188]; try simp) (ref09_Bound_ok v1 v2 v55 v54.Kind v54.Var v54.Zero v54.One v54.Row v54.Num v54.Den _ h189) (by simp only [go_sem, seval, c100, c163, a181, b182, c183, c184, a186, b187, c188]; try simp) (by simp only [go_sem, seval, c100, c163, a181, b182, c183, c184, a186, b187, c188]; try simp) (by simp only [go_sem, seval, c100, c163, a181, b182, c183, c184, a186, b187, c188]; try simp) (by simp only [go_sem, seval, c100, c163, a181, b182, c183, c184, a186, b187, c188]; try simp) (by simp only [go_sem, seval, c100, c163, a181, b182, c183, c184, a186, b187, c188]; try simp) (by simp only [go_sem, seval, c100, c163, a181, b182, c183, c184, a186, b187, c188]; try simp) ?_
        simp only [go_sem, seval, c100, c163, a181, b182, c183, c184, a186, b187, c188]
        refine hK _ _ (by kernel_rfl) (by simp [c100, c163, a181, b182, c183, c184, a186, b187, c188]) ?_
        clear hK K
        refine Walk.seq (Walk.seq (Walk.region' rfl fun K hK => ?_))
        simp only [go_sem, seval, c100, c163, a181, b182, c183, c184, a186, b187, c188]
        refine VGdO hx (fun g190 hx => ?_) (fun g190 hx => ?_)
        · simp only [go_sem, seval, c100, c163, a181, b182, c183, c184, a186, b187, c188, g190]
          refine hK _ ?_
          clear hK K
          refine Walk.condT rfl (Walk.region' rfl fun K hK => ?_)
          simp only [go_sem, seval, c100, c163, a181, b182, c183, c184, a186, b187, c188, g190]
          refine hK _ ?_
          clear hK K
          refine Walk.region' rfl fun K hK => ?_
          simp only [go_sem, seval, c100, c163, a181, b182, c183, c184, a186, b187, c188, g190]
          refine hK _ ?_
          clear hK K
          refine Walk.inBlock (Walk.region' rfl fun K hK => ?_)
          simp only [go_sem, seval, c100, c163, a181, b182, c183, c184, a186, b187, c188, g190]
          refine hK _ ?_
          clear hK K
          exact Walk.weaken _ (by simp [c100, c163, a181, b182, c183, c184, a186, b187, c188, g190] <;> omega) (by simp [c100, c163, a181, b182, c183, c184, a186, b187, c188, g190] <;> omega) (ih159 _ (cont_elim hx))
        simp only [go_sem, seval, c100, c163, a181, b182, c183, c184, a186, b187, c188, g190]
        refine hK _ ?_
        clear hK K
        refine Walk.condO rfl hx (fun c191 hx => ?_) (fun c191 hx => ?_)
        · refine Walk.region' rfl fun K hK => ?_
          simp only [go_sem, seval, c100, c163, a181, b182, c183, c184, a186, b187, c188, g190, c191]
          refine hK _ ?_
          clear hK K
          refine Walk.region' rfl fun K hK => ?_
          simp only [go_sem, seval, c100, c163, a181, b182, c183, c184, a186, b187, c188, g190, c191]
          refine hK _ ?_
          clear hK K
          refine Walk.inBlock (Walk.region' rfl fun K hK => ?_)
          simp only [go_sem, seval, c100, c163, a181, b182, c183, c184, a186, b187, c188, g190, c191]
          refine hK _ ?_
          clear hK K
          exact Walk.weaken _ (by simp [c100, c163, a181, b182, c183, c184, a186, b187, c188, g190, c191] <;> omega) (by simp [c100, c163, a181, b182, c183, c184, a186, b187, c188, g190, c191] <;> omega) (ih159 _ (cont_elim hx))
        refine Walk.skip (Walk.region' rfl fun K hK => ?_)
        simp only [go_sem, seval, c100, c163, a181, b182, c183, c184, a186, b187, c188, g190, c191]
        refine hK _ ?_
        clear hK K
        refine Walk.inBlock (Walk.region' rfl fun K hK => ?_)
        simp only [go_sem, seval, c100, c163, a181, b182, c183, c184, a186, b187, c188, g190, c191]
        refine hK _ ?_
        clear hK K
        exact Walk.weaken _ (by simp [c100, c163, a181, b182, c183, c184, a186, b187, c188, g190, c191] <;> omega) (by simp [c100, c163, a181, b182, c183, c184, a186, b187, c188, g190, c191] <;> omega) (ih159 _ (cont_elim hx))
      refine Walk.skip (Walk.inBlock (Walk.region' rfl fun K hK => ?_))
      simp only [go_sem, seval, c100, c163, a181, b182, c183, c184]
      refine hK _ ?_
      clear hK K
      exact Walk.weaken _ (by simp [c100, c163, a181, b182, c183, c184] <;> omega) (by simp [c100, c163, a181, b182, c183, c184] <;> omega) (ih159 _ (cont_elim hx))
    refine Walk.seq (Walk.drawn' rfl mixed fun K hK => ?_)
    obtain ⟨v57, r192, a193, b194, c195, hx⟩ := rd_elim hx
    simp only [go_sem, seval, c100, c163, a193, b194, c195]
    repeat refine And.intro (by first | omega | (simp; done) | (simp; omega)) ?_
    refine VGdO hx (fun g196 hx => ?_) (fun g196 hx => ?_)
    · obtain ⟨v58, r197, a198, b199, c200, hx⟩ := rd_elim hx
      obtain ⟨v59, r201, a202, b203, c204, hx⟩ := rd_elim hx
      obtain ⟨v60, h205, hx⟩ := bind_elim hx
      simp only [go_sem, seval, c100, c163, a193, b194, c195, g196, a198, b199, c200, a202, b203, c204]
      repeat refine And.intro (by first | omega | (simp; done) | (simp; omega)) ?_
      refine VCl.pure rfl (by simp only [go_sem, seval, c100, c163, a193, b194, c195, g196, a198, b199, c200, a202, b203, c204]; try simp) (ref08_Blocked_ok v58.Coefs v58.Least v58.Most v59 _ h205) (by simp only [go_sem, seval, c100, c163, a193, b194, c195, g196, a198, b199, c200, a202, b203, c204]; try simp) (by simp only [go_sem, seval, c100, c163, a193, b194, c195, g196, a198, b199, c200, a202, b203, c204]; try simp) (by simp only [go_sem, seval, c100, c163, a193, b194, c195, g196, a198, b199, c200, a202, b203, c204]; try simp) (by simp only [go_sem, seval, c100, c163, a193, b194, c195, g196, a198, b199, c200, a202, b203, c204]; try simp) (by simp only [go_sem, seval, c100, c163, a193, b194, c195, g196, a198, b199, c200, a202, b203, c204]; try simp) (by simp only [go_sem, seval, c100, c163, a193, b194, c195, g196, a198, b199, c200, a202, b203, c204]; try simp) ?_
      simp only [go_sem, seval, c100, c163, a193, b194, c195, g196, a198, b199, c200, a202, b203, c204]
      refine hK _ _ (by kernel_rfl) (by simp [c100, c163, a193, b194, c195, g196, a198, b199, c200, a202, b203, c204]) ?_
      clear hK K
      refine Walk.condO rfl hx (fun c206 hx => ?_) (fun c206 hx => ?_)
      · refine Walk.seq (Walk.region' rfl fun K hK => ?_)
        simp only [go_sem, seval, c100, c163, a193, b194, c195, g196, a198, b199, c200, a202, b203, c204, c206]
        refine hK _ ?_
        clear hK K
        obtain ⟨z207, e208, hx⟩ := exit_elim hx
        rw [hr160 z207 e208] at hx
        obtain rfl := Option.some.inj hx
        exact Walk.ret ⟨by simp [c100, c163, a193, b194, c195, g196, a198, b199, c200, a202, b203, c204, c206], by simp [c100, c163, a193, b194, c195, g196, a198, b199, c200, a202, b203, c204, c206]⟩
      refine Walk.skip ?_
      exact Walk.weaken _ (by simp [c100, c163, a193, b194, c195, g196, a198, b199, c200, a202, b203, c204, c206] <;> omega) (by simp [c100, c163, a193, b194, c195, g196, a198, b199, c200, a202, b203, c204, c206] <;> omega) (fin179 () hx)
    simp only [go_sem, seval, c100, c163, a193, b194, c195, g196]
    refine hK _ _ (by kernel_rfl) (by simp [c100, c163, a193, b194, c195, g196]) ?_
    clear hK K
    refine Walk.condF rfl (Walk.skip ?_)
    exact Walk.weaken _ (by simp [c100, c163, a193, b194, c195, g196] <;> omega) (by simp [c100, c163, a193, b194, c195, g196] <;> omega) (fin179 () hx)
  refine Walk.exit rfl ?_
  obtain ⟨z209, e210, hx⟩ := exit_elim hx
  rw [hr160 z209 e210] at hx
  refine Walk.seq (Walk.region' rfl fun K hK => ?_)
  simp only [go_sem, seval, c100, c163]
  refine hK _ ?_
  clear hK K
  obtain rfl := Option.some.inj hx
  exact Walk.ret ⟨by simp [c100, c163], by simp [c100, c163]⟩
noncomputable def law09_OptimalityProves (v1 : List Int) : Option (Bool) :=
  (mk_New v1).bind fun v13 => (mk_Tape_Program v13 0 5 10).bind fun v14 => (mk_Tape_Next v13 v14.1 2).bind fun v17 => (mk_Tape_Tree v13 v17.2 v14.2.2 v14.2.1 (decide (v17.1 = 1))).bind fun v18 => (mk_Tape_Bent v13 v18.1 v18.2 4).bind fun v19 => (optimality_Proved v14.2.2 v14.2.1 v19.1).bind fun v20 => (ref09_Proved v14.2.2 v14.2.1 v19.1).bind fun v21 => bif decide (v20.1 = v21.1) then (bif (v20.2.1 == v21.2.1) then (bif decide (v20.2.2 = v21.2.2) then ((law09_awake).bind fun v22 => some (v22 : Bool)) else (some (false : Bool))) else (some (false : Bool))) else (some (false : Bool))
theorem law09_OptimalityProves_ok (v1 : List Int) (r : Bool) (hx : law09_OptimalityProves v1 = some r) :
    ACalls Try.prog 5 [.d (.sl (List.map iD v1))] [] (.d (.bool r)) [] := by
  refine ACalls.of_sem (n := 54) 0 [2] (fn := Try.f5) Try.func5 rfl rfl (.one rfl) rfl (by simp) (by intro i; simp only [hget]; (repeat' split) <;> simp <;> omega) ?_
  unfold law09_OptimalityProves at hx
  refine Walk.seq (Walk.region' rfl fun K hK => ?_)
  simp only [go_sem, seval]
  refine hK _ ?_
  clear hK K
  refine Walk.seq (Walk.region' rfl fun K hK => ?_)
  obtain ⟨v13, h21, hx⟩ := bind_elim hx
  have w22 := ((mk_New_ok v1 _ h21).swap 2000 1005)
  simp only [renE, renL, AV.ren, AV.rens, AObj.ren, swp, Option.map_some, reduceIte, Nat.reduceEqDiff] at w22
  simp only [go_sem, seval]
  refine VCl.sub [] [] rfl (by simp only [go_sem, seval, AV.viewXs, AV.viewX, avD]; try simp) (w22) (by simp) (by simp) (by simp) (by simp) (by simp) (by simp) (by simp) (by simp) (by simp) (by simp) ?_
  simp only [go_sem, seval]
  refine hK _ ?_
  clear hK K
  refine Walk.weaken ⟨[(3, .box 1005 0)], [(1005, some (.box [.d (.sl (List.map iD v13)), .d (.int .i64 0)]))]⟩ (by simp <;> omega) (by simp <;> omega) ?_
  refine Walk.seq (Walk.region' rfl fun K hK => ?_)
  obtain ⟨v14, h23, hx⟩ := bind_elim hx
  have w24 := ((((mk_Tape_Program_ok v13 0 5 10 _ h23).swap 0 1005).swap 2001 1006).swap 2002 1007)
  simp only [renE, renL, AV.ren, AV.rens, AObj.ren, swp, Option.map_some, reduceIte, Nat.reduceEqDiff] at w24
  simp only [go_sem, seval]
  refine VCl.sub [(1005, some (.box [.d (.sl (List.map iD v13)), .d (.int .i64 0)]))] [] rfl (by simp only [go_sem, seval, AV.viewXs, AV.viewX, avD]; try simp) (w24) (by simp) (by simp) (by simp) (by simp) (by simp) (by simp) (by simp) (by simp) (by simp) (by simp) ?_
  simp only [go_sem, seval]
  refine hK _ ?_
  clear hK K
  refine Walk.weaken ⟨[(3, .box 1005 0), (4, .box 4 0)], [(4, some (.box [.arr 1006 0 v14.2.2.length, .arr 1007 0 v14.2.1.length])), (1005, some (.box [.d (.sl (List.map iD v13)), .d (.int .i64 v14.1)])), (1006, some (.arr 3 1 (List.map iD v14.2.2))), (1007, some (.arr 64 3 (List.map Row.D v14.2.1)))]⟩ (by simp <;> omega) (by simp <;> omega) ?_
  refine Walk.seq ?_
  refine Walk.weaken ⟨[(3, .box 1005 0), (4, .box 4 0)], [(4, some (.box [.arr 1006 0 v14.2.2.length, .arr 1007 0 v14.2.1.length])), (1005, some (.box [.d (.sl (List.map iD v13)), .d (.int .i64 v14.1)])), (1006, some (.arr 3 1 (List.map iD v14.2.2))), (1007, some (.arr 64 3 (List.map Row.D v14.2.1)))]⟩ (by simp <;> omega) (by simp <;> omega) ?_
  refine Walk.freeze 1006 3 1 (List.map iD v14.2.2) [(3, .box 1005 0), (4, .box 4 0)] [(4, some (.box [.d (.sl (List.map iD v14.2.2)), .arr 1007 0 v14.2.1.length])), (1005, some (.box [.d (.sl (List.map iD v13)), .d (.int .i64 v14.1)])), (1007, some (.arr 64 3 (List.map Row.D v14.2.1)))] (by simp) (by simp) (by simp) ?_
  refine Walk.weaken ⟨[(3, .box 1005 0), (4, .box 4 0)], [(4, some (.box [.d (.sl (List.map iD v14.2.2)), .arr 1007 0 v14.2.1.length])), (1005, some (.box [.d (.sl (List.map iD v13)), .d (.int .i64 v14.1)])), (1007, some (.arr 64 3 (List.map Row.D v14.2.1)))]⟩ (by simp <;> omega) (by simp <;> omega) ?_
  refine Walk.freeze 1007 64 3 (List.map Row.D v14.2.1) [(3, .box 1005 0), (4, .box 4 0)] [(4, some (.box [.d (.sl (List.map iD v14.2.2)), .d (.sl (List.map Row.D v14.2.1))])), (1005, some (.box [.d (.sl (List.map iD v13)), .d (.int .i64 v14.1)]))] (by simp) (by simp) (by simp) ?_
  refine Walk.drawn' rfl mixed fun K hK => ?_
  obtain ⟨v17, h29, hx⟩ := bind_elim hx
  have w30 := ((mk_Tape_Next_ok v13 v14.1 2 _ h29).swap 0 1005)
  simp only [renE, renL, AV.ren, AV.rens, AObj.ren, swp, Option.map_some, reduceIte, Nat.reduceEqDiff] at w30
  simp only [go_sem, seval]
  refine VCl.sub [(1005, some (.box [.d (.sl (List.map iD v13)), .d (.int .i64 v14.1)]))] [] rfl (by simp only [go_sem, seval, AV.viewXs, AV.viewX, avD]; try simp) (w30) (by simp) (by simp) (by simp) (by simp) (by simp) (by simp) (by simp) (by simp) (by simp) (by simp) ?_
  obtain ⟨v18, h31, hx⟩ := bind_elim hx
  have w32 := (((mk_Tape_Tree_ok v13 v17.2 v14.2.2 v14.2.1 (decide (v17.1 = 1)) _ h31).swap 0 1005).swap 2000 1008)
  simp only [renE, renL, AV.ren, AV.rens, AObj.ren, swp, Option.map_some, reduceIte, Nat.reduceEqDiff] at w32
  simp only [go_sem, seval]
  refine VCl.sub [(1005, some (.box [.d (.sl (List.map iD v13)), .d (.int .i64 v17.2)]))] [] rfl (by simp only [go_sem, seval, AV.viewXs, AV.viewX, avD]; try simp) (w32) (by simp) (by simp) (by simp) (by simp) (by simp) (by simp) (by simp) (by simp) (by simp) (by simp) ?_
  obtain ⟨v19, h33, hx⟩ := bind_elim hx
  have w34 := ((mk_Tape_Bent_ok v13 v18.1 v18.2 4 _ h33).swap 0 1005)
  simp only [renE, renL, AV.ren, AV.rens, AObj.ren, swp, Option.map_some, reduceIte, Nat.reduceEqDiff] at w34
  simp only [go_sem, seval]
  refine VCl.sub [(1005, some (.box [.d (.sl (List.map iD v13)), .d (.int .i64 v18.1)]))] [1008] rfl (by simp only [go_sem, seval, AV.viewXs, AV.viewX, avD]; try simp) (w34) (by simp) (by simp) (by simp) (by simp) (by simp) (by simp) (by simp) (by simp) (by simp) (by simp) ?_
  simp only [go_sem, seval]
  refine hK _ _ (by kernel_rfl) (by simp) ?_
  clear hK K
  refine Walk.weaken ⟨[(4, .box 4 0), (5, .d (.sl (List.map Node.D v19.1)))], [(4, some (.box [.d (.sl (List.map iD v14.2.2)), .d (.sl (List.map Row.D v14.2.1))]))]⟩ (by simp <;> omega) (by simp <;> omega) ?_
  refine Walk.seq (Walk.region' rfl fun K hK => ?_)
  obtain ⟨v20, h35, hx⟩ := bind_elim hx
  simp only [go_sem, seval]
  refine VCl.pure rfl (by simp only [go_sem, seval]; try simp) (optimality_Proved_ok v14.2.2 v14.2.1 v19.1 _ h35) (by simp only [go_sem, seval]; try simp) (by simp only [go_sem, seval]; try simp) (by simp only [go_sem, seval]; try simp) (by simp only [go_sem, seval]; try simp) (by simp only [go_sem, seval]; try simp) (by simp only [go_sem, seval]; try simp) ?_
  simp only [go_sem, seval]
  refine hK _ ?_
  clear hK K
  refine Walk.seq (Walk.region' rfl fun K hK => ?_)
  obtain ⟨v21, h36, hx⟩ := bind_elim hx
  simp only [go_sem, seval]
  refine VCl.pure rfl (by simp only [go_sem, seval]; try simp) (ref09_Proved_ok v14.2.2 v14.2.1 v19.1 _ h36) (by simp only [go_sem, seval]; try simp) (by simp only [go_sem, seval]; try simp) (by simp only [go_sem, seval]; try simp) (by simp only [go_sem, seval]; try simp) (by simp only [go_sem, seval]; try simp) (by simp only [go_sem, seval]; try simp) ?_
  simp only [go_sem, seval]
  refine hK _ ?_
  clear hK K
  refine Walk.seq (Walk.region' rfl fun K hK => ?_)
  simp only [go_sem, seval]
  refine VGdO hx (fun g37 hx => ?_) (fun g37 hx => ?_)
  · simp only [go_sem, seval, g37]
    refine VGdO hx (fun g38 hx => ?_) (fun g38 hx => ?_)
    · simp only [go_sem, seval, g37, g38]
      refine VGdO hx (fun g39 hx => ?_) (fun g39 hx => ?_)
      · obtain ⟨v22, h40, hx⟩ := bind_elim hx
        simp only [go_sem, seval, g37, g38, g39]
        refine VCl.pure rfl (by simp only [go_sem, seval, g37, g38, g39]; try simp) (law09_awake_ok _ h40) (by simp only [go_sem, seval, g37, g38, g39]; try simp) (by simp only [go_sem, seval, g37, g38, g39]; try simp) (by simp only [go_sem, seval, g37, g38, g39]; try simp) (by simp only [go_sem, seval, g37, g38, g39]; try simp) (by simp only [go_sem, seval, g37, g38, g39]; try simp) (by simp only [go_sem, seval, g37, g38, g39]; try simp) ?_
        simp only [go_sem, seval, g37, g38, g39]
        refine hK _ ?_
        clear hK K
        obtain rfl := Option.some.inj hx
        exact Walk.ret ⟨by simp [g37, g38, g39], by simp [g37, g38, g39]⟩
      simp only [go_sem, seval, g37, g38, g39]
      refine hK _ ?_
      clear hK K
      obtain rfl := Option.some.inj hx
      exact Walk.ret ⟨by simp [g37, g38, g39], by simp [g37, g38, g39]⟩
    simp only [go_sem, seval, g37, g38]
    refine hK _ ?_
    clear hK K
    obtain rfl := Option.some.inj hx
    exact Walk.ret ⟨by simp [g37, g38], by simp [g37, g38]⟩
  simp only [go_sem, seval, g37]
  refine hK _ ?_
  clear hK K
  obtain rfl := Option.some.inj hx
  exact Walk.ret ⟨by simp [g37], by simp [g37]⟩
noncomputable def ref08_Subset_l0 (v1 : Int) (v2 : Int) (v6 : List Int) (v7 : Int) : Option ((List Int × Int) ⊕ (List Int)) :=
  bif decide (v7 < v1) then (chk (0 ≤ (IntKind.u64.wrap (v7))) (bif decide (((Go.bits .and .i64 ((v2 / 2 ^ (min (IntKind.u64.wrap (v7)).toNat 64))) 1)) = 1) then (chk ((v6.length + 1) * 8 ≤ 140737488355328) (contO (((v6 ++ [v7]), IntKind.i64.wrap (v7 + 1)) : List Int × Int))) else (contO ((v6, IntKind.i64.wrap (v7 + 1)) : List Int × Int)))) else (exitO (some (v6 : List Int)))
noncomputable def ref08_Subset (v1 : Int) (v2 : Int) : Option (List Int) :=
  iter (fun g : List Int × Int => ref08_Subset_l0 v1 v2 g.1 g.2) ([], 0)
theorem ref08_Subset_ok (v1 : Int) (v2 : Int) (r : List Int) (hx : ref08_Subset v1 v2 = some r) :
    ACalls Try.prog 34 [.d (.int .i64 v1), .d (.int .i64 v2)] [] (.arr 2000 0 r.length) [(2000, some (.arr 3 1 (List.map iD r)))] := by
  refine ACalls.of_sem (n := 23) 0 [4] (fn := Try.f34) Try.func34 rfl rfl (.one rfl) rfl (by simp) (by intro i; simp only [hget]; (repeat' split) <;> simp <;> omega) ?_
  unfold ref08_Subset at hx
  refine Walk.seq (Walk.region' rfl fun K hK => ?_)
  simp only [go_sem, seval]
  refine hK _ ?_
  clear hK K
  refine Walk.seq (Walk.region' rfl fun K hK => ?_)
  simp only [go_sem, seval]
  refine hK _ ?_
  clear hK K
  refine Walk.seq (Walk.seq (Walk.region' rfl fun K hK => ?_))
  simp only [go_sem, seval]
  refine hK _ ?_
  clear hK K
  refine Walk.block (Walk.loop ?_)
  refine Walk.weaken ⟨[(0, .d (.int .i64 v1)), (1, .d (.int .i64 v2)), (5, .nils), (6, .d (.int .i64 0))], []⟩ (by simp <;> omega) (by simp <;> omega) ?_
  refine Walk.up 1002 3 1 [(0, .d (.int .i64 v1)), (1, .d (.int .i64 v2)), (5, .arr 1002 0 0), (6, .d (.int .i64 0))] [] (by simp) (by simp) (by omega) (by simp) (by simp) (by simp) ?_
  refine Walk.weaken ⟨[(0, .d (.int .i64 v1)), (1, .d (.int .i64 v2)), (5, .arr 1002 0 0), (6, .d (.int .i64 0))], [(1002, some (.arr 3 1 (List.map iD [])))]⟩ (by simp <;> omega) (by simp <;> omega) ?_
  refine Walk.iter (σ := List Int × Int) (fun g => ⟨[(0, .d (.int .i64 v1)), (1, .d (.int .i64 v2)), (5, .arr 1002 0 g.1.length), (6, .d (.int .i64 g.2))], [(1002, some (.arr 3 1 (List.map iD g.1)))]⟩) (fun g : List Int × Int => ref08_Subset_l0 v1 v2 g.1 g.2) _ (fun g y43 hx ih33 hr34 => ?_) ([], 0) hx
  obtain ⟨v6, v7⟩ := g
  unfold ref08_Subset_l0 at hx
  try dsimp only at hx ⊢
  refine Walk.seq (Walk.seq (Walk.region' rfl fun K hK => ?_))
  simp only [go_sem, seval]
  refine hK _ ?_
  clear hK K
  refine Walk.condO rfl hx (fun c37 hx => ?_) (fun c37 hx => ?_)
  · refine Walk.skip (Walk.seq (Walk.block (Walk.seq (Walk.region' rfl fun K hK => ?_))))
    obtain ⟨k38, hx⟩ := chk_elim hx
    simp only [go_sem, seval, c37, k38]
    repeat refine And.intro (by first | omega | (simp; done) | (simp; omega)) ?_
    refine hK _ ?_
    clear hK K
    refine Walk.condO rfl hx (fun c39 hx => ?_) (fun c39 hx => ?_)
    · refine Walk.region' rfl fun K hK => ?_
      obtain ⟨k40, hx⟩ := chk_elim hx
      simp only [go_sem, seval, c37, k38, c39, k40]
      repeat refine And.intro (by first | omega | (simp; done) | (simp; omega)) ?_
      refine hK _ ?_
      clear hK K
      refine Walk.weaken ⟨[(0, .d (.int .i64 v1)), (1, .d (.int .i64 v2)), (5, .arr 1002 0 ((v6 ++ [v7]).length)), (6, .d (.int .i64 v7))], [(1002, some (.arr 3 1 (List.map iD (v6 ++ [v7]))))]⟩ (by simp [c37, k38, c39, k40] <;> omega) (by simp [c37, k38, c39, k40] <;> omega) ?_
      refine Walk.inBlock (Walk.region' rfl fun K hK => ?_)
      simp only [go_sem, seval, c37, k38, c39, k40]
      refine hK _ ?_
      clear hK K
      exact Walk.weaken _ (by simp [c37, k38, c39, k40] <;> omega) (by simp [c37, k38, c39, k40] <;> omega) (ih33 _ (cont_elim hx))
    refine Walk.skip (Walk.inBlock (Walk.region' rfl fun K hK => ?_))
    simp only [go_sem, seval, c37, k38, c39]
    refine hK _ ?_
    clear hK K
    exact Walk.weaken _ (by simp [c37, k38, c39] <;> omega) (by simp [c37, k38, c39] <;> omega) (ih33 _ (cont_elim hx))
  refine Walk.exit rfl ?_
  obtain ⟨z41, e42, hx⟩ := exit_elim hx
  rw [hr34 z41 e42] at hx
  refine Walk.seq (Walk.region' rfl fun K hK => ?_)
  simp only [go_sem, seval, c37]
  refine hK _ ?_
  clear hK K
  refine Walk.weaken ⟨[(4, .arr 1002 0 v6.length)], [(1002, some (.arr 3 1 (List.map iD v6)))]⟩ (by simp [c37] <;> omega) (by simp [c37] <;> omega) ?_
  refine Walk.rename 1002 2000 (by omega) (by omega) (by simp) (by simp) ?_
  simp only [renE, renL, AV.ren, AV.rens, AObj.ren, swp, Option.map_some, reduceIte, Nat.reduceEqDiff]
  obtain rfl := Option.some.inj hx
  exact Walk.ret ⟨by simp [c37], by simp [c37]⟩
noncomputable def ref08_Choice_l0 (v2 : List Int) (v1 : Int) (v11 : Int) : Option ((Int) ⊕ (Bool)) :=
  bif decide (v11 < (v2.length : Int)) then ((rd v2 v11).bind fun v14 => bif decide (v14 < 0) then (exitO (some (false : Bool))) else (bif decide (v14 ≥ v1) then (exitO (some (false : Bool))) else (bif decide (v11 > 0) then ((rd v2 (IntKind.i64.wrap (v11 - 1))).bind fun v15 => bif decide (v15 ≥ v14) then (exitO (some (false : Bool))) else (contO (IntKind.i64.wrap (v11 + 1) : Int))) else (contO (IntKind.i64.wrap (v11 + 1) : Int))))) else (exitO (some (true : Bool)))
noncomputable def ref08_Choice (v1 : Int) (v2 : List Int) : Option (Bool) :=
  iter (fun g : Int => ref08_Choice_l0 v2 v1 g) 0
theorem ref08_Choice_ok (v1 : Int) (v2 : List Int) (r : Bool) (hx : ref08_Choice v1 v2 = some r) :
    ACalls Try.prog 57 [.d (.int .i64 v1), .d (.sl (List.map iD v2))] [] (.d (.bool r)) [] := by
  refine ACalls.of_sem (n := 41) 0 [4] (fn := Try.f57) Try.func57 rfl rfl (.one rfl) rfl (by simp) (by intro i; simp only [hget]; (repeat' split) <;> simp <;> omega) ?_
  unfold ref08_Choice at hx
  refine Walk.seq (Walk.region' rfl fun K hK => ?_)
  simp only [go_sem, seval]
  refine hK _ ?_
  clear hK K
  refine Walk.seq (Walk.seq (Walk.region' rfl fun K hK => ?_))
  simp only [go_sem, seval]
  refine hK _ ?_
  clear hK K
  refine Walk.block (Walk.loop ?_)
  refine Walk.weaken ⟨[(0, .d (.int .i64 v1)), (1, .d (.sl (List.map iD v2))), (5, .d (.int .i64 0))], []⟩ (by simp <;> omega) (by simp <;> omega) ?_
  refine Walk.iter (σ := Int) (fun g => ⟨[(0, .d (.int .i64 v1)), (1, .d (.sl (List.map iD v2))), (5, .d (.int .i64 g))], []⟩) (fun g : Int => ref08_Choice_l0 v2 v1 g) _ (fun v11 y93 hx ih68 hr69 => ?_) 0 hx
  unfold ref08_Choice_l0 at hx
  try dsimp only at hx ⊢
  refine Walk.seq (Walk.seq (Walk.region' rfl fun K hK => ?_))
  simp only [go_sem, seval]
  refine hK _ ?_
  clear hK K
  refine Walk.condO rfl hx (fun c72 hx => ?_) (fun c72 hx => ?_)
  · refine Walk.skip (Walk.seq (Walk.block (Walk.seq (Walk.drawn' rfl mixed fun K hK => ?_))))
    obtain ⟨v14, r73, a74, b75, c76, hx⟩ := rd_elim hx
    simp only [go_sem, seval, c72, a74, b75, c76]
    repeat refine And.intro (by first | omega | (simp; done) | (simp; omega)) ?_
    refine VGdO hx (fun g77 hx => ?_) (fun g77 hx => ?_)
    · simp only [go_sem, seval, c72, a74, b75, c76, g77]
      refine hK _ _ (by kernel_rfl) (by simp [c72, a74, b75, c76, g77]) ?_
      clear hK K
      refine Walk.condT rfl (Walk.seq (Walk.region' rfl fun K hK => ?_))
      simp only [go_sem, seval, c72, a74, b75, c76, g77]
      refine hK _ ?_
      clear hK K
      obtain ⟨z78, e79, hx⟩ := exit_elim hx
      rw [hr69 z78 e79] at hx
      obtain rfl := Option.some.inj hx
      exact Walk.ret ⟨by simp [c72, a74, b75, c76, g77], by simp [c72, a74, b75, c76, g77]⟩
    simp only [go_sem, seval, c72, a74, b75, c76, g77]
    repeat refine And.intro (by first | omega | (simp; done) | (simp; omega)) ?_
    refine VGdO hx (fun g80 hx => ?_) (fun g80 hx => ?_)
    · simp only [go_sem, seval, c72, a74, b75, c76, g77, g80]
      refine hK _ _ (by kernel_rfl) (by simp [c72, a74, b75, c76, g77, g80]) ?_
      clear hK K
      refine Walk.condT rfl (Walk.seq (Walk.region' rfl fun K hK => ?_))
      simp only [go_sem, seval, c72, a74, b75, c76, g77, g80]
      refine hK _ ?_
      clear hK K
      obtain ⟨z81, e82, hx⟩ := exit_elim hx
      rw [hr69 z81 e82] at hx
      obtain rfl := Option.some.inj hx
      exact Walk.ret ⟨by simp [c72, a74, b75, c76, g77, g80], by simp [c72, a74, b75, c76, g77, g80]⟩
    simp only [go_sem, seval, c72, a74, b75, c76, g77, g80]
    refine VGdO hx (fun g83 hx => ?_) (fun g83 hx => ?_)
    · obtain ⟨v15, r84, a85, b86, c87, hx⟩ := rd_elim hx
      simp only [go_sem, seval, c72, a74, b75, c76, g77, g80, g83, a85, b86, c87]
      repeat refine And.intro (by first | omega | (simp; done) | (simp; omega)) ?_
      refine hK _ _ (by kernel_rfl) (by simp [c72, a74, b75, c76, g77, g80, g83, a85, b86, c87]) ?_
      clear hK K
      refine Walk.condO rfl hx (fun c88 hx => ?_) (fun c88 hx => ?_)
      · refine Walk.seq (Walk.region' rfl fun K hK => ?_)
        simp only [go_sem, seval, c72, a74, b75, c76, g77, g80, g83, a85, b86, c87, c88]
        refine hK _ ?_
        clear hK K
        obtain ⟨z89, e90, hx⟩ := exit_elim hx
        rw [hr69 z89 e90] at hx
        obtain rfl := Option.some.inj hx
        exact Walk.ret ⟨by simp [c72, a74, b75, c76, g77, g80, g83, a85, b86, c87, c88], by simp [c72, a74, b75, c76, g77, g80, g83, a85, b86, c87, c88]⟩
      refine Walk.skip (Walk.inBlock (Walk.region' rfl fun K hK => ?_))
      simp only [go_sem, seval, c72, a74, b75, c76, g77, g80, g83, a85, b86, c87, c88]
      refine hK _ ?_
      clear hK K
      exact Walk.weaken _ (by simp [c72, a74, b75, c76, g77, g80, g83, a85, b86, c87, c88] <;> omega) (by simp [c72, a74, b75, c76, g77, g80, g83, a85, b86, c87, c88] <;> omega) (ih68 _ (cont_elim hx))
    simp only [go_sem, seval, c72, a74, b75, c76, g77, g80, g83]
    refine hK _ _ (by kernel_rfl) (by simp [c72, a74, b75, c76, g77, g80, g83]) ?_
    clear hK K
    refine Walk.condF rfl (Walk.skip (Walk.inBlock (Walk.region' rfl fun K hK => ?_)))
    simp only [go_sem, seval, c72, a74, b75, c76, g77, g80, g83]
    refine hK _ ?_
    clear hK K
    exact Walk.weaken _ (by simp [c72, a74, b75, c76, g77, g80, g83] <;> omega) (by simp [c72, a74, b75, c76, g77, g80, g83] <;> omega) (ih68 _ (cont_elim hx))
  refine Walk.exit rfl ?_
  obtain ⟨z91, e92, hx⟩ := exit_elim hx
  rw [hr69 z91 e92] at hx
  refine Walk.seq (Walk.region' rfl fun K hK => ?_)
  simp only [go_sem, seval, c72]
  refine hK _ ?_
  clear hK K
  obtain rfl := Option.some.inj hx
  exact Walk.ret ⟨by simp [c72], by simp [c72]⟩
noncomputable def ref08_Sum_l0 (v2 : List Int) (v1 : List Int) (v14 : Int) (v15 : Int) : Option ((Int × Int) ⊕ (Int)) :=
  bif decide (v15 < (v2.length : Int)) then ((rd v2 v15).bind fun v18 => (rd v1 v18).bind fun v19 => contO ((IntKind.i64.wrap (v14 + v19), IntKind.i64.wrap (v15 + 1)) : Int × Int)) else (exitO (some (v14 : Int)))
noncomputable def ref08_Sum (v1 : List Int) (v2 : List Int) : Option (Int) :=
  iter (fun g : Int × Int => ref08_Sum_l0 v2 v1 g.1 g.2) (0, 0)
theorem ref08_Sum_ok (v1 : List Int) (v2 : List Int) (r : Int) (hx : ref08_Sum v1 v2 = some r) :
    ACalls Try.prog 58 [.d (.sl (List.map iD v1)), .d (.sl (List.map iD v2))] [] (.d (.int .i64 r)) [] := by
  refine ACalls.of_sem (n := 23) 0 [4] (fn := Try.f58) Try.func58 rfl rfl (.one rfl) rfl (by simp) (by intro i; simp only [hget]; (repeat' split) <;> simp <;> omega) ?_
  unfold ref08_Sum at hx
  refine Walk.seq (Walk.region' rfl fun K hK => ?_)
  simp only [go_sem, seval]
  refine hK _ ?_
  clear hK K
  refine Walk.seq (Walk.region' rfl fun K hK => ?_)
  simp only [go_sem, seval]
  refine hK _ ?_
  clear hK K
  refine Walk.seq (Walk.seq (Walk.region' rfl fun K hK => ?_))
  simp only [go_sem, seval]
  refine hK _ ?_
  clear hK K
  refine Walk.block (Walk.loop ?_)
  refine Walk.weaken ⟨[(0, .d (.sl (List.map iD v1))), (1, .d (.sl (List.map iD v2))), (5, .d (.int .i64 0)), (6, .d (.int .i64 0))], []⟩ (by simp <;> omega) (by simp <;> omega) ?_
  refine Walk.iter (σ := Int × Int) (fun g => ⟨[(0, .d (.sl (List.map iD v1))), (1, .d (.sl (List.map iD v2))), (5, .d (.int .i64 g.1)), (6, .d (.int .i64 g.2))], []⟩) (fun g : Int × Int => ref08_Sum_l0 v2 v1 g.1 g.2) _ (fun g y75 hx ih60 hr61 => ?_) (0, 0) hx
  obtain ⟨v14, v15⟩ := g
  unfold ref08_Sum_l0 at hx
  try dsimp only at hx ⊢
  refine Walk.seq (Walk.seq (Walk.region' rfl fun K hK => ?_))
  simp only [go_sem, seval]
  refine hK _ ?_
  clear hK K
  refine Walk.condO rfl hx (fun c64 hx => ?_) (fun c64 hx => ?_)
  · refine Walk.skip (Walk.seq (Walk.block (Walk.region' rfl fun K hK => ?_)))
    obtain ⟨v18, r65, a66, b67, c68, hx⟩ := rd_elim hx
    obtain ⟨v19, r69, a70, b71, c72, hx⟩ := rd_elim hx
    simp only [go_sem, seval, c64, a66, b67, c68, a70, b71, c72]
    repeat refine And.intro (by first | omega | (simp; done) | (simp; omega)) ?_
    refine hK _ ?_
    clear hK K
    refine Walk.inBlock (Walk.region' rfl fun K hK => ?_)
    simp only [go_sem, seval, c64, a66, b67, c68, a70, b71, c72]
    refine hK _ ?_
    clear hK K
    exact Walk.weaken _ (by simp [c64, a66, b67, c68, a70, b71, c72] <;> omega) (by simp [c64, a66, b67, c68, a70, b71, c72] <;> omega) (ih60 _ (cont_elim hx))
  refine Walk.exit rfl ?_
  obtain ⟨z73, e74, hx⟩ := exit_elim hx
  rw [hr61 z73 e74] at hx
  refine Walk.seq (Walk.region' rfl fun K hK => ?_)
  simp only [go_sem, seval, c64]
  refine hK _ ?_
  clear hK K
  obtain rfl := Option.some.inj hx
  exact Walk.ret ⟨by simp [c64], by simp [c64]⟩
noncomputable def ref08_Cost (v1 : List Int) (v2 : List Row) (v3 : List Int) : Option (Int × Bool) :=
  (ref08_Valid v1 v2).bind fun v13 => bif !v13 then (some ((0, false) : Int × Bool)) else ((ref08_Choice (v1.length : Int) v3).bind fun v14 => bif !v14 then (some ((0, false) : Int × Bool)) else ((ref08_Sum v1 v3).bind fun v15 => some ((v15, true) : Int × Bool)))
theorem ref08_Cost_ok (v1 : List Int) (v2 : List Row) (v3 : List Int) (r : Int × Bool) (hx : ref08_Cost v1 v2 v3 = some r) :
    ACalls Try.prog 30 [.agg [.d (.sl (List.map iD v1)), .d (.sl (List.map Row.D v2))], .d (.sl (List.map iD v3))] [] (.tup [.d (.int .i64 r.1), .d (.bool r.2)]) [] := by
  refine ACalls.of_sem (n := 21) 0 [4, 5] (fn := Try.f30) Try.func30 rfl rfl (.two rfl) rfl (by simp) (by intro i; simp only [hget]; (repeat' split) <;> simp <;> omega) ?_
  unfold ref08_Cost at hx
  refine Walk.seq (Walk.region' rfl fun K hK => ?_)
  simp only [go_sem, seval]
  refine hK _ ?_
  clear hK K
  refine Walk.seq (Walk.seq (Walk.region' rfl fun K hK => ?_))
  obtain ⟨v13, h15, hx⟩ := bind_elim hx
  simp only [go_sem, seval]
  refine VCl.pure rfl (by simp only [go_sem, seval]; try simp) (ref08_Valid_ok v1 v2 _ h15) (by simp only [go_sem, seval]; try simp) (by simp only [go_sem, seval]; try simp) (by simp only [go_sem, seval]; try simp) (by simp only [go_sem, seval]; try simp) (by simp only [go_sem, seval]; try simp) (by simp only [go_sem, seval]; try simp) ?_
  simp only [go_sem, seval]
  refine VGdO hx (fun g16 hx => ?_) (fun g16 hx => ?_)
  · simp only [go_sem, seval, g16]
    refine hK _ ?_
    clear hK K
    refine Walk.condT rfl (Walk.seq (Walk.region' rfl fun K hK => ?_))
    simp only [go_sem, seval, g16]
    refine hK _ ?_
    clear hK K
    obtain rfl := Option.some.inj hx
    exact Walk.ret ⟨by simp [g16], by simp [g16]⟩
  obtain ⟨v14, h17, hx⟩ := bind_elim hx
  simp only [go_sem, seval, g16]
  refine VCl.pure rfl (by simp only [go_sem, seval, g16]; try simp) (ref08_Choice_ok (v1.length : Int) v3 _ h17) (by simp only [go_sem, seval, g16]; try simp) (by simp only [go_sem, seval, g16]; try simp) (by simp only [go_sem, seval, g16]; try simp) (by simp only [go_sem, seval, g16]; try simp) (by simp only [go_sem, seval, g16]; try simp) (by simp only [go_sem, seval, g16]; try simp) ?_
  simp only [go_sem, seval, g16]
  refine hK _ ?_
  clear hK K
  refine Walk.condO rfl hx (fun c19 hx => ?_) (fun c19 hx => ?_)
  · refine Walk.seq (Walk.region' rfl fun K hK => ?_)
    simp only [go_sem, seval, g16, c19]
    refine hK _ ?_
    clear hK K
    obtain rfl := Option.some.inj hx
    exact Walk.ret ⟨by simp [g16, c19], by simp [g16, c19]⟩
  refine Walk.skip (Walk.seq (Walk.region' rfl fun K hK => ?_))
  obtain ⟨v15, h20, hx⟩ := bind_elim hx
  simp only [go_sem, seval, g16, c19]
  refine VCl.pure rfl (by simp only [go_sem, seval, g16, c19]; try simp) (ref08_Sum_ok v1 v3 _ h20) (by simp only [go_sem, seval, g16, c19]; try simp) (by simp only [go_sem, seval, g16, c19]; try simp) (by simp only [go_sem, seval, g16, c19]; try simp) (by simp only [go_sem, seval, g16, c19]; try simp) (by simp only [go_sem, seval, g16, c19]; try simp) (by simp only [go_sem, seval, g16, c19]; try simp) ?_
  simp only [go_sem, seval, g16, c19]
  refine hK _ ?_
  clear hK K
  obtain rfl := Option.some.inj hx
  exact Walk.ret ⟨by simp [g16, c19], by simp [g16, c19]⟩
noncomputable def ref08_Meets_l0 (v2 : List Row) (v3 : List Int) (v22 : Int) : Option ((Int) ⊕ (Bool)) :=
  bif decide (v22 < (v2.length : Int)) then ((rd v2 v22).bind fun v25 => (ref08_Sum v25.Coefs v3).bind fun v26 => bif decide (v26 < v25.Least) then (exitO (some (false : Bool))) else (bif decide (v26 > v25.Most) then (exitO (some (false : Bool))) else (contO (IntKind.i64.wrap (v22 + 1) : Int)))) else (exitO (some (true : Bool)))
noncomputable def ref08_Meets (v1 : List Int) (v2 : List Row) (v3 : List Int) : Option (Bool) :=
  (ref08_Valid v1 v2).bind fun v18 => bif !v18 then (some (false : Bool)) else ((ref08_Choice (v1.length : Int) v3).bind fun v19 => bif !v19 then (some (false : Bool)) else (iter (fun g : Int => ref08_Meets_l0 v2 v3 g) 0))
theorem ref08_Meets_ok (v1 : List Int) (v2 : List Row) (v3 : List Int) (r : Bool) (hx : ref08_Meets v1 v2 v3 = some r) :
    ACalls Try.prog 56 [.agg [.d (.sl (List.map iD v1)), .d (.sl (List.map Row.D v2))], .d (.sl (List.map iD v3))] [] (.d (.bool r)) [] := by
  refine ACalls.of_sem (n := 51) 0 [4] (fn := Try.f56) Try.func56 rfl rfl (.one rfl) rfl (by simp) (by intro i; simp only [hget]; (repeat' split) <;> simp <;> omega) ?_
  unfold ref08_Meets at hx
  refine Walk.seq (Walk.region' rfl fun K hK => ?_)
  simp only [go_sem, seval]
  refine hK _ ?_
  clear hK K
  refine Walk.seq (Walk.seq (Walk.region' rfl fun K hK => ?_))
  obtain ⟨v18, h48, hx⟩ := bind_elim hx
  simp only [go_sem, seval]
  refine VCl.pure rfl (by simp only [go_sem, seval]; try simp) (ref08_Valid_ok v1 v2 _ h48) (by simp only [go_sem, seval]; try simp) (by simp only [go_sem, seval]; try simp) (by simp only [go_sem, seval]; try simp) (by simp only [go_sem, seval]; try simp) (by simp only [go_sem, seval]; try simp) (by simp only [go_sem, seval]; try simp) ?_
  simp only [go_sem, seval]
  refine VGdO hx (fun g49 hx => ?_) (fun g49 hx => ?_)
  · simp only [go_sem, seval, g49]
    refine hK _ ?_
    clear hK K
    refine Walk.condT rfl (Walk.seq (Walk.region' rfl fun K hK => ?_))
    simp only [go_sem, seval, g49]
    refine hK _ ?_
    clear hK K
    obtain rfl := Option.some.inj hx
    exact Walk.ret ⟨by simp [g49], by simp [g49]⟩
  obtain ⟨v19, h50, hx⟩ := bind_elim hx
  simp only [go_sem, seval, g49]
  refine VCl.pure rfl (by simp only [go_sem, seval, g49]; try simp) (ref08_Choice_ok (v1.length : Int) v3 _ h50) (by simp only [go_sem, seval, g49]; try simp) (by simp only [go_sem, seval, g49]; try simp) (by simp only [go_sem, seval, g49]; try simp) (by simp only [go_sem, seval, g49]; try simp) (by simp only [go_sem, seval, g49]; try simp) (by simp only [go_sem, seval, g49]; try simp) ?_
  simp only [go_sem, seval, g49]
  refine hK _ ?_
  clear hK K
  refine Walk.condO rfl hx (fun c52 hx => ?_) (fun c52 hx => ?_)
  · refine Walk.seq (Walk.region' rfl fun K hK => ?_)
    simp only [go_sem, seval, g49, c52]
    refine hK _ ?_
    clear hK K
    obtain rfl := Option.some.inj hx
    exact Walk.ret ⟨by simp [g49, c52], by simp [g49, c52]⟩
  refine Walk.skip (Walk.seq (Walk.seq (Walk.region' rfl fun K hK => ?_)))
  simp only [go_sem, seval, g49, c52]
  refine hK _ ?_
  clear hK K
  refine Walk.block (Walk.loop ?_)
  refine Walk.weaken ⟨[(1, .d (.sl (List.map iD v3))), (2, .box 2 0), (5, .d (.int .i64 0))], [(2, some (.box [.d (.sl (List.map iD v1)), .d (.sl (List.map Row.D v2))]))]⟩ (by simp [g49, c52] <;> omega) (by simp [g49, c52] <;> omega) ?_
  refine Walk.iter (σ := Int) (fun g => ⟨[(1, .d (.sl (List.map iD v3))), (2, .box 2 0), (5, .d (.int .i64 g))], [(2, some (.box [.d (.sl (List.map iD v1)), .d (.sl (List.map Row.D v2))]))]⟩) (fun g : Int => ref08_Meets_l0 v2 v3 g) _ (fun v22 y91 hx ih73 hr74 => ?_) 0 hx
  unfold ref08_Meets_l0 at hx
  try dsimp only at hx ⊢
  refine Walk.seq (Walk.seq (Walk.region' rfl fun K hK => ?_))
  simp only [go_sem, seval, g49, c52]
  refine hK _ ?_
  clear hK K
  refine Walk.condO rfl hx (fun c77 hx => ?_) (fun c77 hx => ?_)
  · refine Walk.skip (Walk.seq (Walk.block (Walk.seq (Walk.region' rfl fun K hK => ?_))))
    obtain ⟨v25, r78, a79, b80, c81, hx⟩ := rd_elim hx
    obtain ⟨v26, h82, hx⟩ := bind_elim hx
    simp only [go_sem, seval, g49, c52, c77, a79, b80, c81]
    repeat refine And.intro (by first | omega | (simp; done) | (simp; omega)) ?_
    refine VCl.pure rfl (by simp only [go_sem, seval, g49, c52, c77, a79, b80, c81]; try simp) (ref08_Sum_ok v25.Coefs v3 _ h82) (by simp only [go_sem, seval, g49, c52, c77, a79, b80, c81]; try simp) (by simp only [go_sem, seval, g49, c52, c77, a79, b80, c81]; try simp) (by simp only [go_sem, seval, g49, c52, c77, a79, b80, c81]; try simp) (by simp only [go_sem, seval, g49, c52, c77, a79, b80, c81]; try simp) (by simp only [go_sem, seval, g49, c52, c77, a79, b80, c81]; try simp) (by simp only [go_sem, seval, g49, c52, c77, a79, b80, c81]; try simp) ?_
    simp only [go_sem, seval, g49, c52, c77, a79, b80, c81]
    refine hK _ ?_
    clear hK K
    refine Walk.seq (Walk.region' rfl fun K hK => ?_)
    simp only [go_sem, seval, g49, c52, c77, a79, b80, c81]
    repeat refine And.intro (by first | omega | (simp; done) | (simp; omega)) ?_
    refine VGdO hx (fun g83 hx => ?_) (fun g83 hx => ?_)
    · simp only [go_sem, seval, g49, c52, c77, a79, b80, c81, g83]
      refine hK _ ?_
      clear hK K
      refine Walk.condT rfl (Walk.seq (Walk.region' rfl fun K hK => ?_))
      simp only [go_sem, seval, g49, c52, c77, a79, b80, c81, g83]
      refine hK _ ?_
      clear hK K
      obtain ⟨z84, e85, hx⟩ := exit_elim hx
      rw [hr74 z84 e85] at hx
      obtain rfl := Option.some.inj hx
      exact Walk.ret ⟨by simp [g49, c52, c77, a79, b80, c81, g83], by simp [g49, c52, c77, a79, b80, c81, g83]⟩
    simp only [go_sem, seval, g49, c52, c77, a79, b80, c81, g83]
    repeat refine And.intro (by first | omega | (simp; done) | (simp; omega)) ?_
    refine hK _ ?_
    clear hK K
    refine Walk.condO rfl hx (fun c86 hx => ?_) (fun c86 hx => ?_)
    · refine Walk.seq (Walk.region' rfl fun K hK => ?_)
      simp only [go_sem, seval, g49, c52, c77, a79, b80, c81, g83, c86]
      refine hK _ ?_
      clear hK K
      obtain ⟨z87, e88, hx⟩ := exit_elim hx
      rw [hr74 z87 e88] at hx
      obtain rfl := Option.some.inj hx
      exact Walk.ret ⟨by simp [g49, c52, c77, a79, b80, c81, g83, c86], by simp [g49, c52, c77, a79, b80, c81, g83, c86]⟩
    refine Walk.skip (Walk.inBlock (Walk.region' rfl fun K hK => ?_))
    simp only [go_sem, seval, g49, c52, c77, a79, b80, c81, g83, c86]
    refine hK _ ?_
    clear hK K
    exact Walk.weaken _ (by simp [g49, c52, c77, a79, b80, c81, g83, c86] <;> omega) (by simp [g49, c52, c77, a79, b80, c81, g83, c86] <;> omega) (ih73 _ (cont_elim hx))
  refine Walk.exit rfl ?_
  obtain ⟨z89, e90, hx⟩ := exit_elim hx
  rw [hr74 z89 e90] at hx
  refine Walk.seq (Walk.region' rfl fun K hK => ?_)
  simp only [go_sem, seval, g49, c52, c77]
  refine hK _ ?_
  clear hK K
  obtain rfl := Option.some.inj hx
  exact Walk.ret ⟨by simp [g49, c52, c77], by simp [g49, c52, c77]⟩
end Go.AX

