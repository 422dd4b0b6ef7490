import Derived.Test.YtccoondkihlgfaaE8
set_option linter.unusedVariables false
set_option linter.unusedSimpArgs false
set_option maxRecDepth 20000
set_option maxHeartbeats 4000000
namespace Go.AX
open Go.Proofs
attribute [local simp] spl_len take_snoc take_cons_drop cons_rep cons_tail iA bA take_set_len idsL_rep idsL_iA idsL_bA idsL_sA idsL_set_mem idsL_sub sA_def List.map_replicate frVs_setS frVs_self frV_arr take_map_len subE subH eget hget upE upV upH upO_refl upO_box upVs freshE freshH freshO AV.ids AV.idsL ids_box ids_arr frE frV_refl frV_arr frH frO_refl frO_box frVs newOk evalA AV.viewXs AV.viewX AV.viewXP AV.viewXPs AV.viewPs AV.viewP AV.flat AV.flatL D.flat arrsOnly flatObjs newNames subOf closedIn allSome dstOk newOrOld avD avDp zv_i64 zv_u8 zv_bool zv_nils zv_nilp zv_str retAV aLoad cut TI.isAgg nlE nlH nlO_refl nlO_box nlVs nlV_refl nlV_nil iD uD bD tD lD List.map_set ti2 ti3 ti4 ti5 ti6 ti7 ti8 ti9 ti10 ti11 ti12 ti13 ti14 ti15 ti16 ti17 ti18 ti19 ti21 ti22 ti23 ti25 ti26 ti27 ti32 ti33 ti34 ti41 ti42 ti50 ti51 ti56 ti60 ti61 ti63 ti64 ti74 ti76 ti89 ti92 ti96 ti97 ti98 ti99 ti100 ti101 ti102 ti104 ti105 ti106 ti107 ti108 Row.D Node.D
attribute [local go_sem] V1_none V1_some V_nil V_move V_assign V_pick V_bin V_un V_extract V_makeFunc V_convert V_nilCheck V_fieldAddr V_field V_load V_store V_indexAddr V_index V_slice V_slice0 V_alloc V_box V_build V_buildSlice V_makeSlice V_len V_min V_max V_append V_copy V_call V_guard VGs_some VG_tt VG_ff VG_tf VG_ft VG_u gslot ok fail po so aNew dstOk freshU addLog_none' addLog_some' St.step putL evalA eget hget argE freshE freshO freshH AV.ids AV.idsL AV.ok1 AV.cells ids_box ids_arr liveBox liveArr isArr isObj isBoxB aPick isNilC aNilEq aBin aUn aExtract aMakeFunc aConvert aNilCheck aFieldAddr aField cut aLen aIndexAddr aMin aMax aIndex bnd isInt aSlice aSlice0 aLoad aAlloc aBox aStore splice aMake aMakeBox aCopy cellsOf cellsOfP updIds newIds zv_i64 zv_u8 zv_bool zv_nils zv_nilp cond_bool cond_int TI.isAgg TK.isSl TK.el okL avDps avDp avD List.map_cons List.map_nil List.append_nil List.nil_append List.cons_append List.length_cons List.length_nil List.take_succ_cons List.take_zero List.drop_succ_cons List.drop_zero List.take_nil List.drop_nil List.headD_cons List.getD_cons_zero List.getD_cons_succ List.mem_cons List.not_mem_nil List.getElem?_cons_zero List.getElem?_cons_succ List.toList_toArray Option.getD_some Option.getD_none Option.bind_some Option.bind_none Option.map_some Option.map_none Option.getD Option.toList Nat.zero_add Nat.add_zero Nat.zero_le Nat.le_refl if_true if_false ite_self true_and and_true false_and and_false true_or or_true false_or or_false not_true_eq_false not_false_eq_true ne_eq cond_true cond_false Bool.true_eq_false Bool.false_eq_true forall_const decide_true decide_false implies_true true_implies and_self or_self Nat.succ_ne_zero Int.toNat_natCast Int.natCast_nonneg List.length_map decide_eq_true_eq AV.views AV.view AV.viewPs AV.viewP arrsOnly newNames List.length_append List.append_assoc Bool.not_true Bool.not_false AV.ok2 aBuild fillR fillP aBuildSlice dense elP aAppend esOf esOfP List.forall_mem_cons forall_eq_or_imp forall_eq zD zDp map_take' map_drop' iD uD bD tD lD iD_len uD_len bD_len tD_len lD_len LB Int.cast_ofNat_Int Int.natCast_zero Int.natCast_one head_len all_len List.head?_cons List.head?_nil Bool.not_not eq_self List.take_length zv_str aConv byteOf isByte map_bcell bytes_all str_map cellsEq cellsP AV.kd Bool.and_true Bool.true_and Bool.and_false Bool.false_and spl_map spl_len mkbox_i mkbox_b flat_iD dataL_iA dataL_bA zv_u64 flat_iD' flat_len dataL_tA dataL_ttA spl_mt spl_mtt mkbox_s splice_one take_cons_drop cons_rep cons_tail hd_set hd_set0 List.length_replicate iA bA sA_def List.set_set List.length_set idsL_iA idsL_bA idsL_sA idsL_setE idsL_rep List.append_eq Nat.mul_one ti2 ti3 ti4 ti5 ti6 ti7 ti8 ti9 ti10 ti11 ti12 ti13 ti14 ti15 ti16 ti17 ti18 ti19 ti21 ti22 ti23 ti25 ti26 ti27 ti32 ti33 ti34 ti41 ti42 ti50 ti51 ti56 ti60 ti61 ti63 ti64 ti74 ti76 ti89 ti92 ti96 ti97 ti98 ti99 ti100 ti101 ti102 ti104 ti105 ti106 ti107 ti108 Row.D Node.D Row.D_len Node.D_len
noncomputable def law09_cheapest_l0 (v1 : List Int) (v2 : List Row) (v22 : Int) (v23 : Bool) (v24 : List Int) (v25 : Int) : Option ((Int × Bool × List Int × Int) ⊕ (Bool × Int × List Int)) :=
  chk (0 ≤ (IntKind.u64.wrap ((v1.length : Int)))) (bif decide (v22 < (IntKind.i64.wrap (1 * 2 ^ (min (IntKind.u64.wrap ((v1.length : Int))).toNat 64)))) then (bif decide ((v1.length : Int) ≤ 12) then ((ref08_Subset (v1.length : Int) v22).bind fun v29 => (ref08_Cost v1 v2 v29).bind fun v30 => (ref08_Meets v1 v2 v29).bind fun v31 => bif v31 then (bif !v23 then (contO ((IntKind.i64.wrap (v22 + 1), true, v29, v30.1) : Int × Bool × List Int × Int)) else (bif decide (v30.1 < v25) then (contO ((IntKind.i64.wrap (v22 + 1), true, v29, v30.1) : Int × Bool × List Int × Int)) else (contO ((IntKind.i64.wrap (v22 + 1), v23, v24, v25) : Int × Bool × List Int × Int)))) else (contO ((IntKind.i64.wrap (v22 + 1), v23, v24, v25) : Int × Bool × List Int × Int))) else (exitO (some ((v23, v25, v24) : Bool × Int × List Int)))) else (exitO (some ((v23, v25, v24) : Bool × Int × List Int))))
noncomputable def law09_cheapest (v1 : List Int) (v2 : List Row) : Option (Bool × Int × List Int) :=
  iter (fun g : Int × Bool × List Int × Int => law09_cheapest_l0 v1 v2 g.1 g.2.1 g.2.2.1 g.2.2.2) (0, false, [], 0)
theorem law09_cheapest_ok (v1 : List Int) (v2 : List Row) (r : Bool × Int × List Int) (hx : law09_cheapest v1 v2 = some r) :
    ACalls Try.prog 28 [.agg [.d (.sl (List.map iD v1)), .d (.sl (List.map Row.D v2))]] [] (.agg [.d (.bool r.1), .arr 2001 0 r.2.2.length, .d (.int .i64 r.2.1), .nils]) [(2001, some (.arr 3 1 (List.map iD r.2.2)))] := by
  refine ACalls.of_cellS (n := 53) 0 2 51 (fn := Try.f28) Try.func28 rfl rfl rfl rfl (by simp) (by intro i; simp only [hget]; (repeat' split) <;> simp <;> omega) ?_
  unfold law09_cheapest at hx
  refine Walk.seq (Walk.region' rfl fun K hK => ?_)
  simp only [go_sem, seval]
  refine hK _ ?_
  clear hK K
  refine Walk.seq (Walk.region' rfl fun K hK => ?_)
  simp only [go_sem, seval]
  refine hK _ ?_
  clear hK K
  refine Walk.seq (Walk.seq (Walk.region' rfl fun K hK => ?_))
  simp only [go_sem, seval]
  refine hK _ ?_
  clear hK K
  refine Walk.block (Walk.loop ?_)
  refine Walk.weaken ⟨[(1, .box 1 0), (2, .box 2 0), (3, .box 3 0), (4, .d (.int .i64 0))], [(1, some (.box [.d (.sl (List.map iD v1)), .d (.sl (List.map Row.D v2))])), (2, some (.box [.d (.bool false), .nils, .d (.int .i64 0), .nils])), (3, some (.box [.d (.bool false), .nils, .d (.int .i64 0), .nils]))]⟩ (by simp <;> omega) (by simp <;> omega) ?_
  refine Walk.up 1006 3 1 [(1, .box 1 0), (2, .box 2 0), (3, .box 3 0), (4, .d (.int .i64 0))] [(1, some (.box [.d (.sl (List.map iD v1)), .d (.sl (List.map Row.D v2))])), (2, some (.box [.d (.bool false), .nils, .d (.int .i64 0), .nils])), (3, some (.box [.d (.bool false), .arr 1006 0 0, .d (.int .i64 0), .nils]))] (by simp) (by simp) (by omega) (by simp) (by simp) (by simp) ?_
  refine Walk.weaken ⟨[(1, .box 1 0), (2, .box 2 0), (3, .box 3 0), (4, .d (.int .i64 0))], [(1, some (.box [.d (.sl (List.map iD v1)), .d (.sl (List.map Row.D v2))])), (2, some (.box [.d (.bool false), .nils, .d (.int .i64 0), .nils])), (3, some (.box [.d (.bool false), .arr 1006 0 0, .d (.int .i64 0), .nils])), (1006, some (.arr 3 1 (List.map iD [])))]⟩ (by simp <;> omega) (by simp <;> omega) ?_
  refine Walk.iter (σ := Int × Bool × List Int × Int) (fun g => ⟨[(1, .box 1 0), (2, .box 2 0), (3, .box 3 0), (4, .d (.int .i64 g.1))], [(1, some (.box [.d (.sl (List.map iD v1)), .d (.sl (List.map Row.D v2))])), (2, some (.box [.d (.bool false), .nils, .d (.int .i64 0), .nils])), (3, some (.box [.d (.bool g.2.1), .arr 1006 0 g.2.2.1.length, .d (.int .i64 g.2.2.2), .nils])), (1006, some (.arr 3 1 (List.map iD g.2.2.1)))]⟩) (fun g : Int × Bool × List Int × Int => law09_cheapest_l0 v1 v2 g.1 g.2.1 g.2.2.1 g.2.2.2) _ (fun g y93 hx ih73 hr74 => ?_) (0, false, [], 0) hx
  obtain ⟨v22, v23, v24, v25⟩ := g
  unfold law09_cheapest_l0 at hx
  try dsimp only at hx ⊢
  refine Walk.seq (Walk.seq (Walk.region' rfl fun K hK => ?_))
  obtain ⟨k78, hx⟩ := chk_elim hx
  simp only [go_sem, seval, k78]
  repeat refine And.intro (by first | omega | (simp; done) | (simp; omega)) ?_
  refine VGdO hx (fun g79 hx => ?_) (fun g79 hx => ?_)
  · simp only [go_sem, seval, k78, g79]
    refine hK _ ?_
    clear hK K
    refine Walk.condO rfl hx (fun c81 hx => ?_) (fun c81 hx => ?_)
    · refine Walk.skip (Walk.seq (Walk.block (Walk.seq (Walk.region' rfl fun K hK => ?_))))
      obtain ⟨v29, h82, hx⟩ := bind_elim hx
      have w83 := ((ref08_Subset_ok (v1.length : Int) v22 _ h82).swap 2000 1008)
      simp only [renE, renL, AV.ren, AV.rens, AObj.ren, swp, Option.map_some, reduceIte, Nat.reduceEqDiff] at w83
      simp only [go_sem, seval, k78, g79, c81]
      refine VCl.pure rfl (by simp only [go_sem, seval, k78, g79, c81]; try simp) (w83) (by simp only [go_sem, seval, k78, g79, c81]; try simp) (by simp only [go_sem, seval, k78, g79, c81]; try simp) (by simp only [go_sem, seval, k78, g79, c81]; try simp) (by simp only [go_sem, seval, k78, g79, c81]; try simp) (by simp only [go_sem, seval, k78, g79, c81]; try simp) (by simp only [go_sem, seval, k78, g79, c81]; try simp) ?_
      simp only [go_sem, seval, k78, g79, c81]
      refine hK _ ?_
      clear hK K
      refine Walk.weaken ⟨[(1, .box 1 0), (2, .box 2 0), (3, .box 3 0), (4, .d (.int .i64 v22)), (5, .arr 1008 0 v29.length)], [(1, some (.box [.d (.sl (List.map iD v1)), .d (.sl (List.map Row.D v2))])), (2, some (.box [.d (.bool false), .nils, .d (.int .i64 0), .nils])), (3, some (.box [.d (.bool v23), .arr 1006 0 v24.length, .d (.int .i64 v25), .nils])), (1006, some (.arr 3 1 (List.map iD v24))), (1008, some (.arr 3 1 (List.map iD v29)))]⟩ (by simp [k78, g79, c81] <;> omega) (by simp [k78, g79, c81] <;> omega) ?_
      refine Walk.seq (Walk.region' rfl fun K hK => ?_)
      obtain ⟨v30, h84, hx⟩ := bind_elim hx
      simp only [go_sem, seval, k78, g79, c81]
      refine VCl.lent rfl (by simp only [go_sem, seval, k78, g79, c81]; try simp) (ref08_Cost_ok v1 v2 v29 _ h84) (by simp [k78, g79, c81]) (by simp [k78, g79, c81]) (by simp [k78, g79, c81]) (by simp [k78, g79, c81]) (by simp [k78, g79, c81]) (by simp [k78, g79, c81]) (by simp [k78, g79, c81]) ?_
      simp only [go_sem, seval, k78, g79, c81]
      refine hK _ ?_
      clear hK K
      refine Walk.seq (Walk.region' rfl fun K hK => ?_)
      obtain ⟨v31, h85, hx⟩ := bind_elim hx
      simp only [go_sem, seval, k78, g79, c81]
      refine VCl.lent rfl (by simp only [go_sem, seval, k78, g79, c81]; try simp) (ref08_Meets_ok v1 v2 v29 _ h85) (by simp [k78, g79, c81]) (by simp [k78, g79, c81]) (by simp [k78, g79, c81]) (by simp [k78, g79, c81]) (by simp [k78, g79, c81]) (by simp [k78, g79, c81]) (by simp [k78, g79, c81]) ?_
      simp only [go_sem, seval, k78, g79, c81]
      refine VGdO hx (fun g86 hx => ?_) (fun g86 hx => ?_)
      · simp only [go_sem, seval, k78, g79, c81, g86]
        refine VGdO hx (fun g87 hx => ?_) (fun g87 hx => ?_)
        · simp only [go_sem, seval, k78, g79, c81, g86, g87]
          refine hK _ ?_
          clear hK K
          refine Walk.condT rfl (Walk.region' rfl fun K hK => ?_)
          simp only [go_sem, seval, k78, g79, c81, g86, g87]
          refine hK _ ?_
          clear hK K
          refine Walk.inBlock (Walk.region' rfl fun K hK => ?_)
          simp only [go_sem, seval, k78, g79, c81, g86, g87]
          refine hK _ ?_
          clear hK K
          refine Walk.weaken ⟨[(1, .box 1 0), (2, .box 2 0), (3, .box 3 0), (4, .d (.int .i64 (IntKind.i64.wrap (v22 + 1))))], [(1, some (.box [.d (.sl (List.map iD v1)), .d (.sl (List.map Row.D v2))])), (2, some (.box [.d (.bool false), .nils, .d (.int .i64 0), .nils])), (3, some (.box [.d (.bool true), .arr 1008 0 v29.length, .d (.int .i64 v30.1), .nils])), (1008, some (.arr 3 1 (List.map iD v29)))]⟩ (by simp [k78, g79, c81, g86, g87] <;> omega) (by simp [k78, g79, c81, g86, g87] <;> omega) ?_
          refine Walk.rename 1008 1006 (by omega) (by omega) (by simp) (by simp) ?_
          simp only [renE, renL, AV.ren, AV.rens, AObj.ren, swp, Option.map_some, reduceIte, Nat.reduceEqDiff]
          exact Walk.weaken _ (by simp [k78, g79, c81, g86, g87] <;> omega) (by simp [k78, g79, c81, g86, g87] <;> omega) (ih73 _ (cont_elim hx))
        simp only [go_sem, seval, k78, g79, c81, g86, g87]
        refine hK _ ?_
        clear hK K
        refine Walk.condO rfl hx (fun c88 hx => ?_) (fun c88 hx => ?_)
        · refine Walk.region' rfl fun K hK => ?_
          simp only [go_sem, seval, k78, g79, c81, g86, g87, c88]
          refine hK _ ?_
          clear hK K
          refine Walk.inBlock (Walk.region' rfl fun K hK => ?_)
          simp only [go_sem, seval, k78, g79, c81, g86, g87, c88]
          refine hK _ ?_
          clear hK K
          refine Walk.weaken ⟨[(1, .box 1 0), (2, .box 2 0), (3, .box 3 0), (4, .d (.int .i64 (IntKind.i64.wrap (v22 + 1))))], [(1, some (.box [.d (.sl (List.map iD v1)), .d (.sl (List.map Row.D v2))])), (2, some (.box [.d (.bool false), .nils, .d (.int .i64 0), .nils])), (3, some (.box [.d (.bool true), .arr 1008 0 v29.length, .d (.int .i64 v30.1), .nils])), (1008, some (.arr 3 1 (List.map iD v29)))]⟩ (by simp [k78, g79, c81, g86, g87, c88] <;> omega) (by simp [k78, g79, c81, g86, g87, c88] <;> omega) ?_
          refine Walk.rename 1008 1006 (by omega) (by omega) (by simp) (by simp) ?_
          simp only [renE, renL, AV.ren, AV.rens, AObj.ren, swp, Option.map_some, reduceIte, Nat.reduceEqDiff]
          exact Walk.weaken _ (by simp [k78, g79, c81, g86, g87, c88] <;> omega) (by simp [k78, g79, c81, g86, g87, c88] <;> omega) (ih73 _ (cont_elim hx))
        refine Walk.skip (Walk.inBlock (Walk.region' rfl fun K hK => ?_))
        simp only [go_sem, seval, k78, g79, c81, g86, g87, c88]
        refine hK _ ?_
        clear hK K
        exact Walk.weaken _ (by simp [k78, g79, c81, g86, g87, c88] <;> omega) (by simp [k78, g79, c81, g86, g87, c88] <;> omega) (ih73 _ (cont_elim hx))
      simp only [go_sem, seval, k78, g79, c81, g86]
      refine hK _ ?_
      clear hK K
      refine Walk.condF rfl (Walk.skip (Walk.inBlock (Walk.region' rfl fun K hK => ?_)))
      simp only [go_sem, seval, k78, g79, c81, g86]
      refine hK _ ?_
      clear hK K
      exact Walk.weaken _ (by simp [k78, g79, c81, g86] <;> omega) (by simp [k78, g79, c81, g86] <;> omega) (ih73 _ (cont_elim hx))
    refine Walk.exit rfl ?_
    obtain ⟨z89, e90, hx⟩ := exit_elim hx
    rw [hr74 z89 e90] at hx
    refine Walk.seq (Walk.region' rfl fun K hK => ?_)
    simp only [go_sem, seval, k78, g79, c81]
    refine hK _ ?_
    clear hK K
    refine Walk.weaken ⟨[(2, .box 2 0)], [(2, some (.box [.d (.bool v23), .arr 1006 0 v24.length, .d (.int .i64 v25), .nils])), (1006, some (.arr 3 1 (List.map iD v24)))]⟩ (by simp [k78, g79, c81] <;> omega) (by simp [k78, g79, c81] <;> omega) ?_
    refine Walk.rename 2 2000 (by omega) (by omega) (by simp) (by simp) ?_
    simp only [renE, renL, AV.ren, AV.rens, AObj.ren, swp, Option.map_some, reduceIte, Nat.reduceEqDiff]
    refine Walk.rename 1006 2001 (by omega) (by omega) (by simp) (by simp) ?_
    simp only [renE, renL, AV.ren, AV.rens, AObj.ren, swp, Option.map_some, reduceIte, Nat.reduceEqDiff]
    obtain rfl := Option.some.inj hx
    exact Walk.ret ⟨2000, 0, by simp, by simp, by simp [k78, g79, c81], by simp [k78, g79, c81]⟩
  simp only [go_sem, seval, k78, g79]
  refine hK _ ?_
  clear hK K
  refine Walk.condF rfl (Walk.exit rfl ?_)
  obtain ⟨z91, e92, hx⟩ := exit_elim hx
  rw [hr74 z91 e92] at hx
  refine Walk.seq (Walk.region' rfl fun K hK => ?_)
  simp only [go_sem, seval, k78, g79]
  refine hK _ ?_
  clear hK K
  refine Walk.weaken ⟨[(2, .box 2 0)], [(2, some (.box [.d (.bool v23), .arr 1006 0 v24.length, .d (.int .i64 v25), .nils])), (1006, some (.arr 3 1 (List.map iD v24)))]⟩ (by simp [k78, g79] <;> omega) (by simp [k78, g79] <;> omega) ?_
  refine Walk.rename 2 2000 (by omega) (by omega) (by simp) (by simp) ?_
  simp only [renE, renL, AV.ren, AV.rens, AObj.ren, swp, Option.map_some, reduceIte, Nat.reduceEqDiff]
  refine Walk.rename 1006 2001 (by omega) (by omega) (by simp) (by simp) ?_
  simp only [renE, renL, AV.ren, AV.rens, AObj.ren, swp, Option.map_some, reduceIte, Nat.reduceEqDiff]
  obtain rfl := Option.some.inj hx
  exact Walk.ret ⟨2000, 0, by simp, by simp, by simp [k78, g79], by simp [k78, g79]⟩
noncomputable def mk_Tape_Sorted_l0 (v3 : Int) (v1 : List Int) (v13 : List Int) (v14 : Int) (v15 : Int) : Option ((List Int × Int × Int) ⊕ (Int × List Int)) :=
  bif decide (v14 < v3) then ((mk_Tape_Next v1 v15 2).bind fun v17 => bif decide (v17.1 = 1) then (chk ((v13.length + 1) * 8 ≤ 140737488355328) (contO (((v13 ++ [v14]), IntKind.i64.wrap (v14 + 1), v17.2) : List Int × Int × Int))) else (contO ((v13, IntKind.i64.wrap (v14 + 1), v17.2) : List Int × Int × Int))) else (exitO (some ((v15, v13) : Int × List Int)))
noncomputable def mk_Tape_Sorted (v1 : List Int) (v2 : Int) (v3 : Int) : Option (Int × List Int) :=
  iter (fun g : List Int × Int × Int => mk_Tape_Sorted_l0 v3 v1 g.1 g.2.1 g.2.2) ([], 0, v2)
theorem mk_Tape_Sorted_ok (v1 : List Int) (v2 : Int) (v3 : Int) (r : Int × List Int) (hx : mk_Tape_Sorted v1 v2 v3 = some r) :
    ACalls Try.prog 29 [.box 0 0, .d (.int .i64 v3)] [(0, some (.box [.d (.sl (List.map iD v1)), .d (.int .i64 v2)]))] (.arr 2000 0 r.2.length) [(0, some (.box [.d (.sl (List.map iD v1)), .d (.int .i64 r.1)])), (2000, some (.arr 3 1 (List.map iD r.2)))] := by
  refine ACalls.of_sem (n := 20) 1 [4] (fn := Try.f29) Try.func29 rfl rfl (.one rfl) rfl (by simp) (by intro i; simp only [hget]; (repeat' split) <;> simp <;> omega) ?_
  unfold mk_Tape_Sorted at hx
  refine Walk.seq (Walk.region' rfl fun K hK => ?_)
  simp only [go_sem, seval]
  refine hK _ ?_
  clear hK K
  refine Walk.seq (Walk.region' rfl fun K hK => ?_)
  simp only [go_sem, seval]
  refine hK _ ?_
  clear hK K
  refine Walk.seq (Walk.seq (Walk.region' rfl fun K hK => ?_))
  simp only [go_sem, seval]
  refine hK _ ?_
  clear hK K
  refine Walk.block (Walk.loop ?_)
  refine Walk.weaken ⟨[(0, .box 0 0), (1, .d (.int .i64 v3)), (5, .nils), (6, .d (.int .i64 0))], [(0, some (.box [.d (.sl (List.map iD v1)), .d (.int .i64 v2)]))]⟩ (by simp <;> omega) (by simp <;> omega) ?_
  refine Walk.up 1002 3 1 [(0, .box 0 0), (1, .d (.int .i64 v3)), (5, .arr 1002 0 0), (6, .d (.int .i64 0))] [(0, some (.box [.d (.sl (List.map iD v1)), .d (.int .i64 v2)]))] (by simp) (by simp) (by omega) (by simp) (by simp) (by simp) ?_
  refine Walk.weaken ⟨[(0, .box 0 0), (1, .d (.int .i64 v3)), (5, .arr 1002 0 0), (6, .d (.int .i64 0))], [(0, some (.box [.d (.sl (List.map iD v1)), .d (.int .i64 v2)])), (1002, some (.arr 3 1 (List.map iD [])))]⟩ (by simp <;> omega) (by simp <;> omega) ?_
  refine Walk.iter (σ := List Int × Int × Int) (fun g => ⟨[(0, .box 0 0), (1, .d (.int .i64 v3)), (5, .arr 1002 0 g.1.length), (6, .d (.int .i64 g.2.1))], [(0, some (.box [.d (.sl (List.map iD v1)), .d (.int .i64 g.2.2)])), (1002, some (.arr 3 1 (List.map iD g.1)))]⟩) (fun g : List Int × Int × Int => mk_Tape_Sorted_l0 v3 v1 g.1 g.2.1 g.2.2) _ (fun g y43 hx ih33 hr34 => ?_) ([], 0, v2) hx
  obtain ⟨v13, v14, v15⟩ := g
  unfold mk_Tape_Sorted_l0 at hx
  try dsimp only at hx ⊢
  refine Walk.seq (Walk.seq (Walk.region' rfl fun K hK => ?_))
  simp only [go_sem, seval]
  refine hK _ ?_
  clear hK K
  refine Walk.condO rfl hx (fun c37 hx => ?_) (fun c37 hx => ?_)
  · refine Walk.skip (Walk.seq (Walk.block (Walk.seq (Walk.region' rfl fun K hK => ?_))))
    obtain ⟨v17, h38, hx⟩ := bind_elim hx
    simp only [go_sem, seval, c37]
    refine VCl.sub [(0, some (.box [.d (.sl (List.map iD v1)), .d (.int .i64 v15)]))] [] rfl (by simp only [go_sem, seval, AV.viewXs, AV.viewX, avD, c37]; try simp) (mk_Tape_Next_ok v1 v15 2 _ h38) (by simp [c37]) (by simp [c37]) (by simp [c37]) (by simp [c37]) (by simp [c37]) (by simp [c37]) (by simp [c37]) (by simp [c37]) (by simp [c37]) (by simp [c37]) ?_
    simp only [go_sem, seval, c37]
    refine hK _ ?_
    clear hK K
    refine Walk.weaken ⟨[(0, .box 0 0), (1, .d (.int .i64 v3)), (5, .arr 1002 0 v13.length), (6, .d (.int .i64 v14)), (14, .d (.bool (decide (v17.1 = 1))))], [(0, some (.box [.d (.sl (List.map iD v1)), .d (.int .i64 v17.2)])), (1002, some (.arr 3 1 (List.map iD v13)))]⟩ (by simp [c37] <;> omega) (by simp [c37] <;> omega) ?_
    refine Walk.condO rfl hx (fun c39 hx => ?_) (fun c39 hx => ?_)
    · refine Walk.region' rfl fun K hK => ?_
      obtain ⟨k40, hx⟩ := chk_elim hx
      simp only [go_sem, seval, c37, c39, k40]
      repeat refine And.intro (by first | omega | (simp; done) | (simp; omega)) ?_
      refine hK _ ?_
      clear hK K
      refine Walk.weaken ⟨[(0, .box 0 0), (1, .d (.int .i64 v3)), (5, .arr 1002 0 ((v13 ++ [v14]).length)), (6, .d (.int .i64 v14))], [(0, some (.box [.d (.sl (List.map iD v1)), .d (.int .i64 v17.2)])), (1002, some (.arr 3 1 (List.map iD (v13 ++ [v14]))))]⟩ (by simp [c37, c39, k40] <;> omega) (by simp [c37, c39, k40] <;> omega) ?_
      refine Walk.inBlock (Walk.region' rfl fun K hK => ?_)
      simp only [go_sem, seval, c37, c39, k40]
      refine hK _ ?_
      clear hK K
      exact Walk.weaken _ (by simp [c37, c39, k40] <;> omega) (by simp [c37, c39, k40] <;> omega) (ih33 _ (cont_elim hx))
    refine Walk.skip (Walk.inBlock (Walk.region' rfl fun K hK => ?_))
    simp only [go_sem, seval, c37, c39]
    refine hK _ ?_
    clear hK K
    exact Walk.weaken _ (by simp [c37, c39] <;> omega) (by simp [c37, c39] <;> omega) (ih33 _ (cont_elim hx))
  refine Walk.exit rfl ?_
  obtain ⟨z41, e42, hx⟩ := exit_elim hx
  rw [hr34 z41 e42] at hx
  refine Walk.seq (Walk.region' rfl fun K hK => ?_)
  simp only [go_sem, seval, c37]
  refine hK _ ?_
  clear hK K
  refine Walk.weaken ⟨[(4, .arr 1002 0 v13.length)], [(0, some (.box [.d (.sl (List.map iD v1)), .d (.int .i64 v15)])), (1002, some (.arr 3 1 (List.map iD v13)))]⟩ (by simp [c37] <;> omega) (by simp [c37] <;> omega) ?_
  refine Walk.rename 1002 2000 (by omega) (by omega) (by simp) (by simp) ?_
  simp only [renE, renL, AV.ren, AV.rens, AObj.ren, swp, Option.map_some, reduceIte, Nat.reduceEqDiff]
  obtain rfl := Option.some.inj hx
  exact Walk.ret ⟨by simp [c37], by simp [c37]⟩
noncomputable def ref09_Check_j0 (v1 : List Int) (v2 : List Row) (v6 : List Node) (v5 : Int) (v18 : Bool) : Option (Int) :=
  (ref09_Proved v1 v2 v6).bind fun v19 => bif decide (¬ v19.2.2 = 0) then (some (v19.2.2 : Int)) else (bif v18 then (bif !v19.2.1 then (some (30 : Int)) else (bif decide (v19.1 < v5) then (some (30 : Int)) else (some (0 : Int)))) else (bif v19.2.1 then (some (30 : Int)) else (some (0 : Int))))
noncomputable def ref09_Check (v1 : List Int) (v2 : List Row) (v3 : Bool) (v4 : List Int) (v5 : Int) (v6 : List Node) : Option (Int) :=
  (ref08_Valid v1 v2).bind fun v15 => bif !v15 then (some (1 : Int)) else (bif v3 then ((ref08_Cost v1 v2 v4).bind fun v20 => (ref08_Meets v1 v2 v4).bind fun v21 => bif !v21 then (some (10 : Int)) else (bif decide (¬ v20.1 = v5) then (some (10 : Int)) else (ref09_Check_j0 v1 v2 v6 v5 true))) else (bif decide ((v4.length : Int) > 0) then (some (10 : Int)) else (bif decide (¬ v5 = 0) then (some (10 : Int)) else (ref09_Check_j0 v1 v2 v6 v5 false))))
theorem ref09_Check_ok (v1 : List Int) (v2 : List Row) (v3 : Bool) (v4 : List Int) (v5 : Int) (v6 : List Node) (r : Int) (hx : ref09_Check v1 v2 v3 v4 v5 v6 = some r) :
    ACalls Try.prog 32 [.agg [.d (.sl (List.map iD v1)), .d (.sl (List.map Row.D v2))], .agg [.d (.bool v3), .d (.sl (List.map iD v4)), .d (.int .i64 v5), .d (.sl (List.map Node.D v6))]] [] (.d (.int .i64 r)) [] := by
  refine ACalls.of_sem (n := 73) 0 [4] (fn := Try.f32) Try.func32 rfl rfl (.one rfl) rfl (by simp) (by intro i; simp only [hget]; (repeat' split) <;> simp <;> omega) ?_
  unfold ref09_Check at hx
  refine Walk.seq (Walk.region' rfl fun K hK => ?_)
  simp only [go_sem, seval]
  refine hK _ ?_
  clear hK K
  refine Walk.seq (Walk.seq (Walk.region' rfl fun K hK => ?_))
  obtain ⟨v15, h23, hx⟩ := bind_elim hx
  simp only [go_sem, seval]
  refine VCl.pure rfl (by simp only [go_sem, seval]; try simp) (ref08_Valid_ok v1 v2 _ h23) (by simp only [go_sem, seval]; try simp) (by simp only [go_sem, seval]; try simp) (by simp only [go_sem, seval]; try simp) (by simp only [go_sem, seval]; try simp) (by simp only [go_sem, seval]; try simp) (by simp only [go_sem, seval]; try simp) ?_
  simp only [go_sem, seval]
  refine hK _ ?_
  clear hK K
  refine Walk.condO rfl hx (fun c25 hx => ?_) (fun c25 hx => ?_)
  · refine Walk.seq (Walk.region' rfl fun K hK => ?_)
    simp only [go_sem, seval, c25]
    refine hK _ ?_
    clear hK K
    obtain rfl := Option.some.inj hx
    exact Walk.ret ⟨by simp [c25], by simp [c25]⟩
  refine Walk.skip (Walk.seq (Walk.join (G := Bool) (fun g => ⟨[(2, .box 2 0), (3, .box 3 0)], [(2, some (.box [.d (.sl (List.map iD v1)), .d (.sl (List.map Row.D v2))])), (3, some (.box [.d (.bool g), .d (.sl (List.map iD v4)), .d (.int .i64 v5), .d (.sl (List.map Node.D v6))]))]⟩) (fun g => ref09_Check_j0 v1 v2 v6 v5 g) hx (fun v18 hx => ?_) (fun fin33 => ?_)))
  · unfold ref09_Check_j0 at hx
    try dsimp only at hx ⊢
    refine Walk.seq (Walk.region' rfl fun K hK => ?_)
    obtain ⟨v19, h34, hx⟩ := bind_elim hx
    simp only [go_sem, seval, c25]
    refine VCl.pure rfl (by simp only [go_sem, seval, c25]; try simp) (ref09_Proved_ok v1 v2 v6 _ h34) (by simp only [go_sem, seval, c25]; try simp) (by simp only [go_sem, seval, c25]; try simp) (by simp only [go_sem, seval, c25]; try simp) (by simp only [go_sem, seval, c25]; try simp) (by simp only [go_sem, seval, c25]; try simp) (by simp only [go_sem, seval, c25]; try simp) ?_
    simp only [go_sem, seval, c25]
    refine hK _ ?_
    clear hK K
    refine Walk.seq (Walk.seq (Walk.region' rfl fun K hK => ?_))
    simp only [go_sem, seval, c25]
    refine hK _ ?_
    clear hK K
    refine Walk.condO rfl hx (fun c37 hx => ?_) (fun c37 hx => ?_)
    · refine Walk.seq (Walk.region' rfl fun K hK => ?_)
      simp only [go_sem, seval, c25, c37]
      refine hK _ ?_
      clear hK K
      obtain rfl := Option.some.inj hx
      exact Walk.ret ⟨by simp [c25, c37], by simp [c25, c37]⟩
    refine Walk.skip (Walk.seq (Walk.seq (Walk.region' rfl fun K hK => ?_)))
    simp only [go_sem, seval, c25, c37]
    refine VGdO hx (fun g38 hx => ?_) (fun g38 hx => ?_)
    · simp only [go_sem, seval, c25, c37, g38]
      refine VGdO hx (fun g39 hx => ?_) (fun g39 hx => ?_)
      · simp only [go_sem, seval, c25, c37, g38, g39]
        refine hK _ ?_
        clear hK K
        refine Walk.condT rfl (Walk.seq (Walk.region' rfl fun K hK => ?_))
        simp only [go_sem, seval, c25, c37, g38, g39]
        refine hK _ ?_
        clear hK K
        obtain rfl := Option.some.inj hx
        exact Walk.ret ⟨by simp [c25, c37, g38, g39], by simp [c25, c37, g38, g39]⟩
      simp only [go_sem, seval, c25, c37, g38, g39]
      refine VGdO hx (fun g40 hx => ?_) (fun g40 hx => ?_)
      · simp only [go_sem, seval, c25, c37, g38, g39, g40]
        refine hK _ ?_
        clear hK K
        refine Walk.condT rfl (Walk.seq (Walk.region' rfl fun K hK => ?_))
        simp only [go_sem, seval, c25, c37, g38, g39, g40]
        refine hK _ ?_
        clear hK K
        obtain rfl := Option.some.inj hx
        exact Walk.ret ⟨by simp [c25, c37, g38, g39, g40], by simp [c25, c37, g38, g39, g40]⟩
      simp only [go_sem, seval, c25, c37, g38, g39, g40]
      refine hK _ ?_
      clear hK K
      refine Walk.condF rfl (Walk.skip (Walk.seq (Walk.region' rfl fun K hK => ?_)))
      simp only [go_sem, seval, c25, c37, g38, g39, g40]
      refine hK _ ?_
      clear hK K
      obtain rfl := Option.some.inj hx
      exact Walk.ret ⟨by simp [c25, c37, g38, g39, g40], by simp [c25, c37, g38, g39, g40]⟩
    simp only [go_sem, seval, c25, c37, g38]
    refine hK _ ?_
    clear hK K
    refine Walk.condO rfl hx (fun c41 hx => ?_) (fun c41 hx => ?_)
    · refine Walk.seq (Walk.region' rfl fun K hK => ?_)
      simp only [go_sem, seval, c25, c37, g38, c41]
      refine hK _ ?_
      clear hK K
      obtain rfl := Option.some.inj hx
      exact Walk.ret ⟨by simp [c25, c37, g38, c41], by simp [c25, c37, g38, c41]⟩
    refine Walk.skip (Walk.seq (Walk.region' rfl fun K hK => ?_))
    simp only [go_sem, seval, c25, c37, g38, c41]
    refine hK _ ?_
    clear hK K
    obtain rfl := Option.some.inj hx
    exact Walk.ret ⟨by simp [c25, c37, g38, c41], by simp [c25, c37, g38, c41]⟩
  refine Walk.seq (Walk.region' rfl fun K hK => ?_)
  simp only [go_sem, seval, c25]
  refine hK _ ?_
  clear hK K
  refine Walk.condO rfl hx (fun c42 hx => ?_) (fun c42 hx => ?_)
  · refine Walk.seq (Walk.region' rfl fun K hK => ?_)
    obtain ⟨v20, h43, hx⟩ := bind_elim hx
    simp only [go_sem, seval, c25, c42]
    refine VCl.pure rfl (by simp only [go_sem, seval, c25, c42]; try simp) (ref08_Cost_ok v1 v2 v4 _ h43) (by simp only [go_sem, seval, c25, c42]; try simp) (by simp only [go_sem, seval, c25, c42]; try simp) (by simp only [go_sem, seval, c25, c42]; try simp) (by simp only [go_sem, seval, c25, c42]; try simp) (by simp only [go_sem, seval, c25, c42]; try simp) (by simp only [go_sem, seval, c25, c42]; try simp) ?_
    simp only [go_sem, seval, c25, c42]
    refine hK _ ?_
    clear hK K
    refine Walk.seq (Walk.region' rfl fun K hK => ?_)
    obtain ⟨v21, h44, hx⟩ := bind_elim hx
    simp only [go_sem, seval, c25, c42]
    refine VCl.pure rfl (by simp only [go_sem, seval, c25, c42]; try simp) (ref08_Meets_ok v1 v2 v4 _ h44) (by simp only [go_sem, seval, c25, c42]; try simp) (by simp only [go_sem, seval, c25, c42]; try simp) (by simp only [go_sem, seval, c25, c42]; try simp) (by simp only [go_sem, seval, c25, c42]; try simp) (by simp only [go_sem, seval, c25, c42]; try simp) (by simp only [go_sem, seval, c25, c42]; try simp) ?_
    simp only [go_sem, seval, c25, c42]
    refine VGdO hx (fun g45 hx => ?_) (fun g45 hx => ?_)
    · simp only [go_sem, seval, c25, c42, g45]
      refine hK _ ?_
      clear hK K
      refine Walk.condT rfl (Walk.seq (Walk.region' rfl fun K hK => ?_))
      simp only [go_sem, seval, c25, c42, g45]
      refine hK _ ?_
      clear hK K
      obtain rfl := Option.some.inj hx
      exact Walk.ret ⟨by simp [c25, c42, g45], by simp [c25, c42, g45]⟩
    simp only [go_sem, seval, c25, c42, g45]
    refine hK _ ?_
    clear hK K
    refine Walk.condO rfl hx (fun c46 hx => ?_) (fun c46 hx => ?_)
    · refine Walk.seq (Walk.region' rfl fun K hK => ?_)
      simp only [go_sem, seval, c25, c42, g45, c46]
      refine hK _ ?_
      clear hK K
      obtain rfl := Option.some.inj hx
      exact Walk.ret ⟨by simp [c25, c42, g45, c46], by simp [c25, c42, g45, c46]⟩
    refine Walk.skip ?_
    exact Walk.weaken _ (by simp [c25, c42, g45, c46] <;> omega) (by simp [c25, c42, g45, c46] <;> omega) (fin33 true hx)
  refine Walk.seq (Walk.region' rfl fun K hK => ?_)
  simp only [go_sem, seval, c25, c42]
  refine VGdO hx (fun g47 hx => ?_) (fun g47 hx => ?_)
  · simp only [go_sem, seval, c25, c42, g47]
    refine hK _ ?_
    clear hK K
    refine Walk.condT rfl (Walk.seq (Walk.region' rfl fun K hK => ?_))
    simp only [go_sem, seval, c25, c42, g47]
    refine hK _ ?_
    clear hK K
    obtain rfl := Option.some.inj hx
    exact Walk.ret ⟨by simp [c25, c42, g47], by simp [c25, c42, g47]⟩
  simp only [go_sem, seval, c25, c42, g47]
  refine hK _ ?_
  clear hK K
  refine Walk.condO rfl hx (fun c48 hx => ?_) (fun c48 hx => ?_)
  · refine Walk.seq (Walk.region' rfl fun K hK => ?_)
    simp only [go_sem, seval, c25, c42, g47, c48]
    refine hK _ ?_
    clear hK K
    obtain rfl := Option.some.inj hx
    exact Walk.ret ⟨by simp [c25, c42, g47, c48], by simp [c25, c42, g47, c48]⟩
  refine Walk.skip ?_
  exact Walk.weaken _ (by simp [c25, c42, g47, c48] <;> omega) (by simp [c25, c42, g47, c48] <;> omega) (fin33 false hx)
noncomputable def law09_OptimalityChecks_j0 (v22 : Int × List Row × List Int) (v28 : List Node × Int) (v32 : Bool) (v33 : Int) (v34 : List Int) : Option (Bool) :=
  (optimality_Check v22.2.2 v22.2.1 v32 v34 v33 v28.1).bind fun v35 => (ref09_Check v22.2.2 v22.2.1 v32 v34 v33 v28.1).bind fun v36 => bif decide (v35 = v36) then ((law09_awake).bind fun v37 => some (v37 : Bool)) else (some (false : Bool))
noncomputable def law09_OptimalityChecks (v1 : List Int) (v2 : Int) : Option (Bool) :=
  (mk_New v1).bind fun v21 => (mk_Tape_Program v21 0 5 12).bind fun v22 => (law09_cheapest v22.2.2 v22.2.1).bind fun v23 => (mk_Tape_Next v21 v22.1 3).bind fun v26 => (mk_Tape_Tree v21 v26.2 v22.2.2 v22.2.1 (decide (v26.1 > 0))).bind fun v27 => (mk_Tape_Bent v21 v27.1 v27.2 5).bind fun v28 => (mk_Tape_Next v21 v28.2 8).bind fun v38 => bif decide (v38.1 = 1) then (law09_OptimalityChecks_j0 v22 v28 v23.1 v2 v23.2.2) else (bif decide (v38.1 = 2) then (law09_OptimalityChecks_j0 v22 v28 (!v23.1) v23.2.1 v23.2.2) else (bif decide (v38.1 = 3) then ((mk_Tape_Sorted v21 v38.2 (v22.2.2.length : Int)).bind fun v39 => (ref08_Cost v22.2.2 v22.2.1 v39.2).bind fun v40 => law09_OptimalityChecks_j0 v22 v28 v23.1 v40.1 v39.2) else (bif decide (v38.1 = 4) then (law09_OptimalityChecks_j0 v22 v28 false 0 []) else (bif decide (v38.1 = 5) then (law09_OptimalityChecks_j0 v22 v28 v23.1 (IntKind.i64.wrap (v23.2.1 + 1)) v23.2.2) else (law09_OptimalityChecks_j0 v22 v28 v23.1 v23.2.1 v23.2.2)))))
theorem law09_OptimalityChecks_ok (v1 : List Int) (v2 : Int) (r : Bool) (hx : law09_OptimalityChecks v1 v2 = some r) :
    ACalls Try.prog 6 [.d (.sl (List.map iD v1)), .d (.int .i64 v2)] [] (.d (.bool r)) [] := by
  refine ACalls.of_sem (n := 72) 0 [4] (fn := Try.f6) Try.func6 rfl rfl (.one rfl) rfl (by simp) (by intro i; simp only [hget]; (repeat' split) <;> simp <;> omega) ?_
  unfold law09_OptimalityChecks at hx
  refine Walk.seq (Walk.region' rfl fun K hK => ?_)
  simp only [go_sem, seval]
  refine hK _ ?_
  clear hK K
  refine Walk.seq (Walk.region' rfl fun K hK => ?_)
  obtain ⟨v21, h31, hx⟩ := bind_elim hx
  have w32 := ((mk_New_ok v1 _ h31).swap 2000 1007)
  simp only [renE, renL, AV.ren, AV.rens, AObj.ren, swp, Option.map_some, reduceIte, Nat.reduceEqDiff] at w32
  simp only [go_sem, seval]
  refine VCl.sub [] [] rfl (by simp only [go_sem, seval, AV.viewXs, AV.viewX, avD]; try simp) (w32) (by simp) (by simp) (by simp) (by simp) (by simp) (by simp) (by simp) (by simp) (by simp) (by simp) ?_
  simp only [go_sem, seval]
  refine hK _ ?_
  clear hK K
  refine Walk.weaken ⟨[(1, .d (.int .i64 v2)), (5, .box 1007 0)], [(1007, some (.box [.d (.sl (List.map iD v21)), .d (.int .i64 0)]))]⟩ (by simp <;> omega) (by simp <;> omega) ?_
  refine Walk.seq (Walk.region' rfl fun K hK => ?_)
  obtain ⟨v22, h33, hx⟩ := bind_elim hx
  have w34 := ((((mk_Tape_Program_ok v21 0 5 12 _ h33).swap 0 1007).swap 2001 1008).swap 2002 1009)
  simp only [renE, renL, AV.ren, AV.rens, AObj.ren, swp, Option.map_some, reduceIte, Nat.reduceEqDiff] at w34
  simp only [go_sem, seval]
  refine VCl.sub [(1007, some (.box [.d (.sl (List.map iD v21)), .d (.int .i64 0)]))] [] rfl (by simp only [go_sem, seval, AV.viewXs, AV.viewX, avD]; try simp) (w34) (by simp) (by simp) (by simp) (by simp) (by simp) (by simp) (by simp) (by simp) (by simp) (by simp) ?_
  simp only [go_sem, seval]
  refine hK _ ?_
  clear hK K
  refine Walk.weaken ⟨[(1, .d (.int .i64 v2)), (5, .box 1007 0), (6, .box 6 0)], [(6, some (.box [.arr 1008 0 v22.2.2.length, .arr 1009 0 v22.2.1.length])), (1007, some (.box [.d (.sl (List.map iD v21)), .d (.int .i64 v22.1)])), (1008, some (.arr 3 1 (List.map iD v22.2.2))), (1009, some (.arr 64 3 (List.map Row.D v22.2.1)))]⟩ (by simp <;> omega) (by simp <;> omega) ?_
  refine Walk.seq (Walk.region' rfl fun K hK => ?_)
  obtain ⟨v23, h35, hx⟩ := bind_elim hx
  have w36 := ((law09_cheapest_ok v22.2.2 v22.2.1 _ h35).swap 2001 1010)
  simp only [renE, renL, AV.ren, AV.rens, AObj.ren, swp, Option.map_some, reduceIte, Nat.reduceEqDiff] at w36
  simp only [go_sem, seval]
  refine VCl.lent rfl (by simp only [go_sem, seval]; try simp) (w36) (by simp) (by simp) (by simp) (by simp) (by simp) (by simp) (by simp) ?_
  simp only [go_sem, seval]
  refine hK _ ?_
  clear hK K
  refine Walk.weaken ⟨[(1, .d (.int .i64 v2)), (5, .box 1007 0), (6, .box 6 0), (7, .box 7 0)], [(6, some (.box [.arr 1008 0 v22.2.2.length, .arr 1009 0 v22.2.1.length])), (7, some (.box [.d (.bool v23.1), .arr 1010 0 v23.2.2.length, .d (.int .i64 v23.2.1), .nils])), (1007, some (.box [.d (.sl (List.map iD v21)), .d (.int .i64 v22.1)])), (1008, some (.arr 3 1 (List.map iD v22.2.2))), (1009, some (.arr 64 3 (List.map Row.D v22.2.1))), (1010, some (.arr 3 1 (List.map iD v23.2.2)))]⟩ (by simp <;> omega) (by simp <;> omega) ?_
  refine Walk.seq ?_
  refine Walk.weaken ⟨[(1, .d (.int .i64 v2)), (5, .box 1007 0), (6, .box 6 0), (7, .box 7 0)], [(6, some (.box [.arr 1008 0 v22.2.2.length, .arr 1009 0 v22.2.1.length])), (7, some (.box [.d (.bool v23.1), .arr 1010 0 v23.2.2.length, .d (.int .i64 v23.2.1), .nils])), (1007, some (.box [.d (.sl (List.map iD v21)), .d (.int .i64 v22.1)])), (1008, some (.arr 3 1 (List.map iD v22.2.2))), (1009, some (.arr 64 3 (List.map Row.D v22.2.1))), (1010, some (.arr 3 1 (List.map iD v23.2.2)))]⟩ (by simp <;> omega) (by simp <;> omega) ?_
  refine Walk.freeze 1008 3 1 (List.map iD v22.2.2) [(1, .d (.int .i64 v2)), (5, .box 1007 0), (6, .box 6 0), (7, .box 7 0)] [(6, some (.box [.d (.sl (List.map iD v22.2.2)), .arr 1009 0 v22.2.1.length])), (7, some (.box [.d (.bool v23.1), .arr 1010 0 v23.2.2.length, .d (.int .i64 v23.2.1), .nils])), (1007, some (.box [.d (.sl (List.map iD v21)), .d (.int .i64 v22.1)])), (1009, some (.arr 64 3 (List.map Row.D v22.2.1))), (1010, some (.arr 3 1 (List.map iD v23.2.2)))] (by simp) (by simp) (by simp) ?_
  refine Walk.weaken ⟨[(1, .d (.int .i64 v2)), (5, .box 1007 0), (6, .box 6 0), (7, .box 7 0)], [(6, some (.box [.d (.sl (List.map iD v22.2.2)), .arr 1009 0 v22.2.1.length])), (7, some (.box [.d (.bool v23.1), .arr 1010 0 v23.2.2.length, .d (.int .i64 v23.2.1), .nils])), (1007, some (.box [.d (.sl (List.map iD v21)), .d (.int .i64 v22.1)])), (1009, some (.arr 64 3 (List.map Row.D v22.2.1))), (1010, some (.arr 3 1 (List.map iD v23.2.2)))]⟩ (by simp <;> omega) (by simp <;> omega) ?_
  refine Walk.freeze 1009 64 3 (List.map Row.D v22.2.1) [(1, .d (.int .i64 v2)), (5, .box 1007 0), (6, .box 6 0), (7, .box 7 0)] [(6, some (.box [.d (.sl (List.map iD v22.2.2)), .d (.sl (List.map Row.D v22.2.1))])), (7, some (.box [.d (.bool v23.1), .arr 1010 0 v23.2.2.length, .d (.int .i64 v23.2.1), .nils])), (1007, some (.box [.d (.sl (List.map iD v21)), .d (.int .i64 v22.1)])), (1010, some (.arr 3 1 (List.map iD v23.2.2)))] (by simp) (by simp) (by simp) ?_
  refine Walk.drawn' rfl mixed fun K hK => ?_
  obtain ⟨v26, h41, hx⟩ := bind_elim hx
  have w42 := ((mk_Tape_Next_ok v21 v22.1 3 _ h41).swap 0 1007)
  simp only [renE, renL, AV.ren, AV.rens, AObj.ren, swp, Option.map_some, reduceIte, Nat.reduceEqDiff] at w42
  simp only [go_sem, seval]
  refine VCl.sub [(1007, some (.box [.d (.sl (List.map iD v21)), .d (.int .i64 v22.1)]))] [] rfl (by simp only [go_sem, seval, AV.viewXs, AV.viewX, avD]; try simp) (w42) (by simp) (by simp) (by simp) (by simp) (by simp) (by simp) (by simp) (by simp) (by simp) (by simp) ?_
  obtain ⟨v27, h43, hx⟩ := bind_elim hx
  have w44 := (((mk_Tape_Tree_ok v21 v26.2 v22.2.2 v22.2.1 (decide (v26.1 > 0)) _ h43).swap 0 1007).swap 2000 1011)
  simp only [renE, renL, AV.ren, AV.rens, AObj.ren, swp, Option.map_some, reduceIte, Nat.reduceEqDiff] at w44
  simp only [go_sem, seval]
  refine VCl.sub [(1007, some (.box [.d (.sl (List.map iD v21)), .d (.int .i64 v26.2)]))] [] rfl (by simp only [go_sem, seval, AV.viewXs, AV.viewX, avD]; try simp) (w44) (by simp) (by simp) (by simp) (by simp) (by simp) (by simp) (by simp) (by simp) (by simp) (by simp) ?_
  obtain ⟨v28, h45, hx⟩ := bind_elim hx
  have w46 := ((mk_Tape_Bent_ok v21 v27.1 v27.2 5 _ h45).swap 0 1007)
  simp only [renE, renL, AV.ren, AV.rens, AObj.ren, swp, Option.map_some, reduceIte, Nat.reduceEqDiff] at w46
  simp only [go_sem, seval]
  refine VCl.sub [(1007, some (.box [.d (.sl (List.map iD v21)), .d (.int .i64 v27.1)]))] [1011] rfl (by simp only [go_sem, seval, AV.viewXs, AV.viewX, avD]; try simp) (w46) (by simp) (by simp) (by simp) (by simp) (by simp) (by simp) (by simp) (by simp) (by simp) (by simp) ?_
  simp only [go_sem, seval]
  refine hK _ _ (by kernel_rfl) (by simp) ?_
  clear hK K
  refine Walk.weaken ⟨[(1, .d (.int .i64 v2)), (5, .box 1007 0), (6, .box 6 0), (7, .box 7 0)], [(6, some (.box [.d (.sl (List.map iD v22.2.2)), .d (.sl (List.map Row.D v22.2.1))])), (7, some (.box [.d (.bool v23.1), .arr 1010 0 v23.2.2.length, .d (.int .i64 v23.2.1), .d (.sl (List.map Node.D v28.1))])), (1007, some (.box [.d (.sl (List.map iD v21)), .d (.int .i64 v28.2)])), (1010, some (.arr 3 1 (List.map iD v23.2.2)))]⟩ (by simp <;> omega) (by simp <;> omega) ?_
  refine Walk.seq (Walk.join (G := Bool × Int × List Int) (fun g => ⟨[(6, .box 6 0), (7, .box 7 0)], [(6, some (.box [.d (.sl (List.map iD v22.2.2)), .d (.sl (List.map Row.D v22.2.1))])), (7, some (.box [.d (.bool g.1), .arr 1010 0 g.2.2.length, .d (.int .i64 g.2.1), .d (.sl (List.map Node.D v28.1))])), (1010, some (.arr 3 1 (List.map iD g.2.2)))]⟩) (fun g => law09_OptimalityChecks_j0 v22 v28 g.1 g.2.1 g.2.2) hx (fun g hx => ?_) (fun fin57 => ?_))
  · obtain ⟨v32, v33, v34⟩ := g
    unfold law09_OptimalityChecks_j0 at hx
    try dsimp only at hx ⊢
    refine Walk.seq (Walk.drawn' rfl mixed fun K hK => ?_)
    obtain ⟨v35, h58, hx⟩ := bind_elim hx
    simp only [go_sem, seval]
    refine VCl.lent rfl (by simp only [go_sem, seval]; try simp) (optimality_Check_ok v22.2.2 v22.2.1 v32 v34 v33 v28.1 _ h58) (by simp) (by simp) (by simp) (by simp) (by simp) (by simp) (by simp) ?_
    obtain ⟨v36, h59, hx⟩ := bind_elim hx
    simp only [go_sem, seval]
    refine VCl.lent rfl (by simp only [go_sem, seval]; try simp) (ref09_Check_ok v22.2.2 v22.2.1 v32 v34 v33 v28.1 _ h59) (by simp) (by simp) (by simp) (by simp) (by simp) (by simp) (by simp) ?_
    simp only [go_sem, seval]
    refine VGdO hx (fun g60 hx => ?_) (fun g60 hx => ?_)
    · obtain ⟨v37, h61, hx⟩ := bind_elim hx
      simp only [go_sem, seval, g60]
      refine VCl.pure rfl (by simp only [go_sem, seval, g60]; try simp) (law09_awake_ok _ h61) (by simp only [go_sem, seval, g60]; try simp) (by simp only [go_sem, seval, g60]; try simp) (by simp only [go_sem, seval, g60]; try simp) (by simp only [go_sem, seval, g60]; try simp) (by simp only [go_sem, seval, g60]; try simp) (by simp only [go_sem, seval, g60]; try simp) ?_
      simp only [go_sem, seval, g60]
      refine hK _ _ (by kernel_rfl) (by simp [g60]) ?_
      clear hK K
      obtain rfl := Option.some.inj hx
      exact Walk.ret ⟨by simp [g60], by simp [g60]⟩
    simp only [go_sem, seval, g60]
    refine hK _ _ (by kernel_rfl) (by simp [g60]) ?_
    clear hK K
    obtain rfl := Option.some.inj hx
    exact Walk.ret ⟨by simp [g60], by simp [g60]⟩
  refine Walk.seq (Walk.region' rfl fun K hK => ?_)
  obtain ⟨v38, h62, hx⟩ := bind_elim hx
  have w63 := ((mk_Tape_Next_ok v21 v28.2 8 _ h62).swap 0 1007)
  simp only [renE, renL, AV.ren, AV.rens, AObj.ren, swp, Option.map_some, reduceIte, Nat.reduceEqDiff] at w63
  simp only [go_sem, seval]
  refine VCl.sub [(1007, some (.box [.d (.sl (List.map iD v21)), .d (.int .i64 v28.2)]))] [] rfl (by simp only [go_sem, seval, AV.viewXs, AV.viewX, avD]; try simp) (w63) (by simp) (by simp) (by simp) (by simp) (by simp) (by simp) (by simp) (by simp) (by simp) (by simp) ?_
  simp only [go_sem, seval]
  refine hK _ ?_
  clear hK K
  refine Walk.weaken ⟨[(1, .d (.int .i64 v2)), (5, .box 1007 0), (6, .box 6 0), (7, .box 7 0), (24, .d (.int .i64 v38.1))], [(6, some (.box [.d (.sl (List.map iD v22.2.2)), .d (.sl (List.map Row.D v22.2.1))])), (7, some (.box [.d (.bool v23.1), .arr 1010 0 v23.2.2.length, .d (.int .i64 v23.2.1), .d (.sl (List.map Node.D v28.1))])), (1007, some (.box [.d (.sl (List.map iD v21)), .d (.int .i64 v38.2)])), (1010, some (.arr 3 1 (List.map iD v23.2.2)))]⟩ (by simp <;> omega) (by simp <;> omega) ?_
  refine Walk.block (Walk.seq (Walk.region' rfl fun K hK => ?_))
  simp only [go_sem, seval]
  refine hK _ ?_
  clear hK K
  refine Walk.condO rfl hx (fun c64 hx => ?_) (fun c64 hx => ?_)
  · refine Walk.region' rfl fun K hK => ?_
    simp only [go_sem, seval, c64]
    refine hK _ ?_
    clear hK K
    refine Walk.inBlock ?_
    exact Walk.weaken _ (by simp [c64] <;> omega) (by simp [c64] <;> omega) (fin57 (v23.1, v2, v23.2.2) hx)
  refine Walk.seq (Walk.region' rfl fun K hK => ?_)
  simp only [go_sem, seval, c64]
  refine hK _ ?_
  clear hK K
  refine Walk.condO rfl hx (fun c65 hx => ?_) (fun c65 hx => ?_)
  · refine Walk.region' rfl fun K hK => ?_
    simp only [go_sem, seval, c64, c65]
    refine hK _ ?_
    clear hK K
    refine Walk.inBlock ?_
    exact Walk.weaken _ (by simp [c64, c65] <;> omega) (by simp [c64, c65] <;> omega) (fin57 (!v23.1, v23.2.1, v23.2.2) hx)
  refine Walk.seq (Walk.region' rfl fun K hK => ?_)
  simp only [go_sem, seval, c64, c65]
  refine hK _ ?_
  clear hK K
  refine Walk.condO rfl hx (fun c66 hx => ?_) (fun c66 hx => ?_)
  · refine Walk.seq (Walk.region' rfl fun K hK => ?_)
    obtain ⟨v39, h67, hx⟩ := bind_elim hx
    have w68 := (((mk_Tape_Sorted_ok v21 v38.2 (v22.2.2.length : Int) _ h67).swap 0 1007).swap 2000 1013)
    simp only [renE, renL, AV.ren, AV.rens, AObj.ren, swp, Option.map_some, reduceIte, Nat.reduceEqDiff] at w68
    simp only [go_sem, seval, c64, c65, c66]
    refine VCl.sub [(1007, some (.box [.d (.sl (List.map iD v21)), .d (.int .i64 v38.2)]))] [] rfl (by simp only [go_sem, seval, AV.viewXs, AV.viewX, avD, c64, c65, c66]; try simp) (w68) (by simp [c64, c65, c66]) (by simp [c64, c65, c66]) (by simp [c64, c65, c66]) (by simp [c64, c65, c66]) (by simp [c64, c65, c66]) (by simp [c64, c65, c66]) (by simp [c64, c65, c66]) (by simp [c64, c65, c66]) (by simp [c64, c65, c66]) (by simp [c64, c65, c66]) ?_
    simp only [go_sem, seval, c64, c65, c66]
    refine hK _ ?_
    clear hK K
    refine Walk.weaken ⟨[(6, .box 6 0), (7, .box 7 0)], [(6, some (.box [.d (.sl (List.map iD v22.2.2)), .d (.sl (List.map Row.D v22.2.1))])), (7, some (.box [.d (.bool v23.1), .arr 1013 0 v39.2.length, .d (.int .i64 v23.2.1), .d (.sl (List.map Node.D v28.1))])), (1013, some (.arr 3 1 (List.map iD v39.2)))]⟩ (by simp [c64, c65, c66] <;> omega) (by simp [c64, c65, c66] <;> omega) ?_
    refine Walk.region' rfl fun K hK => ?_
    obtain ⟨v40, h69, hx⟩ := bind_elim hx
    simp only [go_sem, seval, c64, c65, c66]
    refine VCl.lent rfl (by simp only [go_sem, seval, c64, c65, c66]; try simp) (ref08_Cost_ok v22.2.2 v22.2.1 v39.2 _ h69) (by simp [c64, c65, c66]) (by simp [c64, c65, c66]) (by simp [c64, c65, c66]) (by simp [c64, c65, c66]) (by simp [c64, c65, c66]) (by simp [c64, c65, c66]) (by simp [c64, c65, c66]) ?_
    simp only [go_sem, seval, c64, c65, c66]
    refine hK _ ?_
    clear hK K
    refine Walk.inBlock ?_
    refine Walk.weaken ⟨[(6, .box 6 0), (7, .box 7 0)], [(6, some (.box [.d (.sl (List.map iD v22.2.2)), .d (.sl (List.map Row.D v22.2.1))])), (7, some (.box [.d (.bool v23.1), .arr 1013 0 v39.2.length, .d (.int .i64 v40.1), .d (.sl (List.map Node.D v28.1))])), (1013, some (.arr 3 1 (List.map iD v39.2)))]⟩ (by simp [c64, c65, c66] <;> omega) (by simp [c64, c65, c66] <;> omega) ?_
    refine Walk.rename 1013 1010 (by omega) (by omega) (by simp) (by simp) ?_
    simp only [renE, renL, AV.ren, AV.rens, AObj.ren, swp, Option.map_some, reduceIte, Nat.reduceEqDiff]
    exact Walk.weaken _ (by simp [c64, c65, c66] <;> omega) (by simp [c64, c65, c66] <;> omega) (fin57 (v23.1, v40.1, v39.2) hx)
  refine Walk.seq (Walk.region' rfl fun K hK => ?_)
  simp only [go_sem, seval, c64, c65, c66]
  refine hK _ ?_
  clear hK K
  refine Walk.condO rfl hx (fun c70 hx => ?_) (fun c70 hx => ?_)
  · refine Walk.region' rfl fun K hK => ?_
    simp only [go_sem, seval, c64, c65, c66, c70]
    refine hK _ ?_
    clear hK K
    refine Walk.inBlock ?_
    refine Walk.weaken ⟨[(6, .box 6 0), (7, .box 7 0)], [(6, some (.box [.d (.sl (List.map iD v22.2.2)), .d (.sl (List.map Row.D v22.2.1))])), (7, some (.box [.d (.bool false), .nils, .d (.int .i64 0), .d (.sl (List.map Node.D v28.1))]))]⟩ (by simp [c64, c65, c66, c70] <;> omega) (by simp [c64, c65, c66, c70] <;> omega) ?_
    refine Walk.up 1010 3 1 [(6, .box 6 0), (7, .box 7 0)] [(6, some (.box [.d (.sl (List.map iD v22.2.2)), .d (.sl (List.map Row.D v22.2.1))])), (7, some (.box [.d (.bool false), .arr 1010 0 0, .d (.int .i64 0), .d (.sl (List.map Node.D v28.1))]))] (by simp) (by simp) (by omega) (by simp) (by simp) (by simp) ?_
    exact Walk.weaken _ (by simp [c64, c65, c66, c70] <;> omega) (by simp [c64, c65, c66, c70] <;> omega) (fin57 (false, 0, []) hx)
  refine Walk.seq (Walk.region' rfl fun K hK => ?_)
  simp only [go_sem, seval, c64, c65, c66, c70]
  refine hK _ ?_
  clear hK K
  refine Walk.condO rfl hx (fun c71 hx => ?_) (fun c71 hx => ?_)
  · refine Walk.region' rfl fun K hK => ?_
    simp only [go_sem, seval, c64, c65, c66, c70, c71]
    refine hK _ ?_
    clear hK K
    refine Walk.inBlock ?_
    exact Walk.weaken _ (by simp [c64, c65, c66, c70, c71] <;> omega) (by simp [c64, c65, c66, c70, c71] <;> omega) (fin57 (v23.1, IntKind.i64.wrap (v23.2.1 + 1), v23.2.2) hx)
  refine Walk.skip (Walk.inBlock ?_)
  exact Walk.weaken _ (by simp [c64, c65, c66, c70, c71] <;> omega) (by simp [c64, c65, c66, c70, c71] <;> omega) (fin57 (v23.1, v23.2.1, v23.2.2) hx)
noncomputable def law09_OptimalityMany_j0 (v8 : List (List Int) × Int) (v9 : Int) : Option (Bool) :=
  bif decide (v8.2 = v9) then ((law09_awake).bind fun v10 => some (v10 : Bool)) else (some (false : Bool))
noncomputable def law09_OptimalityMany (v1 : Int) : Option (Bool) :=
  (mk_Cut v1 5).bind fun v7 => chk ((0 : Int) ≤ (IntKind.i64.wrap (8189 + v7)) ∧ (IntKind.i64.wrap (8189 + v7)) = (IntKind.i64.wrap (8189 + v7)) ∧ 56 * (IntKind.i64.wrap (8189 + v7)) ≤ 281474976710656 ∧ (IntKind.i64.wrap (8189 + v7)) ≤ 281474976710656) ((optimality_States [] [] (List.replicate (IntKind.i64.wrap (8189 + v7)).toNat (Node.mk (0 : Int) (0 : Int) (0 : Int) (0 : Int) (0 : Int) (0 : Int) (0 : Int)))).bind fun v8 => bif decide ((((IntKind.i64.wrap (8189 + v7)).toNat : Int)) > 8191) then (law09_OptimalityMany_j0 v8 3) else (law09_OptimalityMany_j0 v8 29))
theorem law09_OptimalityMany_ok (v1 : Int) (r : Bool) (hx : law09_OptimalityMany v1 = some r) :
    ACalls Try.prog 7 [.d (.int .i64 v1)] [] (.d (.bool r)) [] := by
  refine ACalls.of_sem (n := 26) 0 [2] (fn := Try.f7) Try.func7 rfl rfl (.one rfl) rfl (by simp) (by intro i; simp only [hget]; (repeat' split) <;> simp <;> omega) ?_
  unfold law09_OptimalityMany at hx
  refine Walk.seq (Walk.region' rfl fun K hK => ?_)
  simp only [go_sem, seval]
  refine hK _ ?_
  clear hK K
  refine Walk.seq (Walk.region' rfl fun K hK => ?_)
  obtain ⟨v7, h7, hx⟩ := bind_elim hx
  simp only [go_sem, seval]
  refine VCl.pure rfl (by simp only [go_sem, seval]; try simp) (mk_Cut_ok v1 5 _ h7) (by simp only [go_sem, seval]; try simp) (by simp only [go_sem, seval]; try simp) (by simp only [go_sem, seval]; try simp) (by simp only [go_sem, seval]; try simp) (by simp only [go_sem, seval]; try simp) (by simp only [go_sem, seval]; try simp) ?_
  obtain ⟨k8, hx⟩ := chk_elim hx
  simp only [go_sem, seval, k8]
  repeat refine And.intro (by first | omega | (simp; done) | (simp; omega)) ?_
  refine hK _ ?_
  clear hK K
  refine Walk.weaken ⟨[(3, .arr 10 0 (((List.replicate (IntKind.i64.wrap (8189 + v7)).toNat (Node.mk (0 : Int) (0 : Int) (0 : Int) (0 : Int) (0 : Int) (0 : Int) (0 : Int)))).length))], [(10, some (.arr 33 7 (List.map Node.D ((List.replicate (IntKind.i64.wrap (8189 + v7)).toNat (Node.mk (0 : Int) (0 : Int) (0 : Int) (0 : Int) (0 : Int) (0 : Int) (0 : Int)))))))]⟩ (by simp [k8] <;> omega) (by simp [k8] <;> omega) ?_
  refine Walk.seq ?_
  refine Walk.weaken ⟨[(3, .arr 10 0 (((List.replicate (IntKind.i64.wrap (8189 + v7)).toNat (Node.mk (0 : Int) (0 : Int) (0 : Int) (0 : Int) (0 : Int) (0 : Int) (0 : Int)))).length))], [(10, some (.arr 33 7 (List.map Node.D ((List.replicate (IntKind.i64.wrap (8189 + v7)).toNat (Node.mk (0 : Int) (0 : Int) (0 : Int) (0 : Int) (0 : Int) (0 : Int) (0 : Int)))))))]⟩ (by simp [k8] <;> omega) (by simp [k8] <;> omega) ?_
  refine Walk.freeze 10 33 7 (List.map Node.D ((List.replicate (IntKind.i64.wrap (8189 + v7)).toNat (Node.mk (0 : Int) (0 : Int) (0 : Int) (0 : Int) (0 : Int) (0 : Int) (0 : Int))))) [(3, .d (.sl (List.map Node.D ((List.replicate (IntKind.i64.wrap (8189 + v7)).toNat (Node.mk (0 : Int) (0 : Int) (0 : Int) (0 : Int) (0 : Int) (0 : Int) (0 : Int)))))))] [] (by simp) (by simp) (by simp) ?_
  refine Walk.region' rfl fun K hK => ?_
  obtain ⟨v8, h9, hx⟩ := bind_elim hx
  simp only [go_sem, seval, k8]
  refine VCl.pure rfl (by simp only [go_sem, seval, k8]; try simp) (optimality_States_ok [] [] (List.replicate (IntKind.i64.wrap (8189 + v7)).toNat (Node.mk (0 : Int) (0 : Int) (0 : Int) (0 : Int) (0 : Int) (0 : Int) (0 : Int))) _ h9) (by simp only [go_sem, seval, k8]; try simp) (by simp only [go_sem, seval, k8]; try simp) (by simp only [go_sem, seval, k8]; try simp) (by simp only [go_sem, seval, k8]; try simp) (by simp only [go_sem, seval, k8]; try simp) (by simp only [go_sem, seval, k8]; try simp) ?_
  simp only [go_sem, seval, k8]
  refine hK _ ?_
  clear hK K
  refine Walk.seq (Walk.region' rfl fun K hK => ?_)
  simp only [go_sem, seval, k8]
  refine hK _ ?_
  clear hK K
  refine Walk.seq (Walk.join (G := Int) (fun g => ⟨[(5, .d (.int .i64 v8.2)), (6, .d (.int .i64 g))], []⟩) (fun g => law09_OptimalityMany_j0 v8 g) hx (fun v9 hx => ?_) (fun fin11 => ?_))
  · unfold law09_OptimalityMany_j0 at hx
    try dsimp only at hx ⊢
    refine Walk.seq (Walk.region' rfl fun K hK => ?_)
    simp only [go_sem, seval, k8]
    refine VGdO hx (fun g12 hx => ?_) (fun g12 hx => ?_)
    · obtain ⟨v10, h13, hx⟩ := bind_elim hx
      simp only [go_sem, seval, k8, g12]
      refine VCl.pure rfl (by simp only [go_sem, seval, k8, g12]; try simp) (law09_awake_ok _ h13) (by simp only [go_sem, seval, k8, g12]; try simp) (by simp only [go_sem, seval, k8, g12]; try simp) (by simp only [go_sem, seval, k8, g12]; try simp) (by simp only [go_sem, seval, k8, g12]; try simp) (by simp only [go_sem, seval, k8, g12]; try simp) (by simp only [go_sem, seval, k8, g12]; try simp) ?_
      simp only [go_sem, seval, k8, g12]
      refine hK _ ?_
      clear hK K
      obtain rfl := Option.some.inj hx
      exact Walk.ret ⟨by simp [k8, g12], by simp [k8, g12]⟩
    simp only [go_sem, seval, k8, g12]
    refine hK _ ?_
    clear hK K
    obtain rfl := Option.some.inj hx
    exact Walk.ret ⟨by simp [k8, g12], by simp [k8, g12]⟩
  refine Walk.seq (Walk.region' rfl fun K hK => ?_)
  simp only [go_sem, seval, k8]
  refine hK _ ?_
  clear hK K
  refine Walk.condO rfl hx (fun c14 hx => ?_) (fun c14 hx => ?_)
  · refine Walk.region' rfl fun K hK => ?_
    simp only [go_sem, seval, k8, c14]
    refine hK _ ?_
    clear hK K
    exact Walk.weaken _ (by simp [k8, c14] <;> omega) (by simp [k8, c14] <;> omega) (fin11 3 hx)
  refine Walk.skip ?_
  exact Walk.weaken _ (by simp [k8, c14] <;> omega) (by simp [k8, c14] <;> omega) (fin11 29 hx)
end Go.AX

