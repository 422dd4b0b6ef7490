import Derived.Test.YtccoondkihlgfaaE6
set_option linter.unusedVariables false
set_option linter.unusedSimpArgs false
set_option maxRecDepth 20000
set_option maxHeartbeats 4000000
namespace Go.AX
open Go.Proofs
attribute [local simp] spl_len take_snoc take_cons_drop cons_rep cons_tail iA bA take_set_len idsL_rep idsL_iA idsL_bA idsL_sA idsL_set_mem idsL_sub sA_def List.map_replicate frVs_setS frVs_self frV_arr take_map_len subE subH eget hget upE upV upH upO_refl upO_box upVs freshE freshH freshO AV.ids AV.idsL ids_box ids_arr frE frV_refl frV_arr frH frO_refl frO_box frVs newOk evalA AV.viewXs AV.viewX AV.viewXP AV.viewXPs AV.viewPs AV.viewP AV.flat AV.flatL D.flat arrsOnly flatObjs newNames subOf closedIn allSome dstOk newOrOld avD avDp zv_i64 zv_u8 zv_bool zv_nils zv_nilp zv_str retAV aLoad cut TI.isAgg nlE nlH nlO_refl nlO_box nlVs nlV_refl nlV_nil iD uD bD tD lD List.map_set ti2 ti3 ti4 ti5 ti6 ti7 ti8 ti9 ti10 ti11 ti12 ti13 ti14 ti15 ti16 ti17 ti18 ti19 ti21 ti22 ti23 ti25 ti26 ti27 ti32 ti33 ti34 ti41 ti42 ti50 ti51 ti56 ti60 ti61 ti63 ti64 ti74 ti76 ti89 ti92 ti96 ti97 ti98 ti99 ti100 ti101 ti102 ti104 ti105 ti106 ti107 ti108 Row.D Node.D
attribute [local go_sem] V1_none V1_some V_nil V_move V_assign V_pick V_bin V_un V_extract V_makeFunc V_convert V_nilCheck V_fieldAddr V_field V_load V_store V_indexAddr V_index V_slice V_slice0 V_alloc V_box V_build V_buildSlice V_makeSlice V_len V_min V_max V_append V_copy V_call V_guard VGs_some VG_tt VG_ff VG_tf VG_ft VG_u gslot ok fail po so aNew dstOk freshU addLog_none' addLog_some' St.step putL evalA eget hget argE freshE freshO freshH AV.ids AV.idsL AV.ok1 AV.cells ids_box ids_arr liveBox liveArr isArr isObj isBoxB aPick isNilC aNilEq aBin aUn aExtract aMakeFunc aConvert aNilCheck aFieldAddr aField cut aLen aIndexAddr aMin aMax aIndex bnd isInt aSlice aSlice0 aLoad aAlloc aBox aStore splice aMake aMakeBox aCopy cellsOf cellsOfP updIds newIds zv_i64 zv_u8 zv_bool zv_nils zv_nilp cond_bool cond_int TI.isAgg TK.isSl TK.el okL avDps avDp avD List.map_cons List.map_nil List.append_nil List.nil_append List.cons_append List.length_cons List.length_nil List.take_succ_cons List.take_zero List.drop_succ_cons List.drop_zero List.take_nil List.drop_nil List.headD_cons List.getD_cons_zero List.getD_cons_succ List.mem_cons List.not_mem_nil List.getElem?_cons_zero List.getElem?_cons_succ List.toList_toArray Option.getD_some Option.getD_none Option.bind_some Option.bind_none Option.map_some Option.map_none Option.getD Option.toList Nat.zero_add Nat.add_zero Nat.zero_le Nat.le_refl if_true if_false ite_self true_and and_true false_and and_false true_or or_true false_or or_false not_true_eq_false not_false_eq_true ne_eq cond_true cond_false Bool.true_eq_false Bool.false_eq_true forall_const decide_true decide_false implies_true true_implies and_self or_self Nat.succ_ne_zero Int.toNat_natCast Int.natCast_nonneg List.length_map decide_eq_true_eq AV.views AV.view AV.viewPs AV.viewP arrsOnly newNames List.length_append List.append_assoc Bool.not_true Bool.not_false AV.ok2 aBuild fillR fillP aBuildSlice dense elP aAppend esOf esOfP List.forall_mem_cons forall_eq_or_imp forall_eq zD zDp map_take' map_drop' iD uD bD tD lD iD_len uD_len bD_len tD_len lD_len LB Int.cast_ofNat_Int Int.natCast_zero Int.natCast_one head_len all_len List.head?_cons List.head?_nil Bool.not_not eq_self List.take_length zv_str aConv byteOf isByte map_bcell bytes_all str_map cellsEq cellsP AV.kd Bool.and_true Bool.true_and Bool.and_false Bool.false_and spl_map spl_len mkbox_i mkbox_b flat_iD dataL_iA dataL_bA zv_u64 flat_iD' flat_len dataL_tA dataL_ttA spl_mt spl_mtt mkbox_s splice_one take_cons_drop cons_rep cons_tail hd_set hd_set0 List.length_replicate iA bA sA_def List.set_set List.length_set idsL_iA idsL_bA idsL_sA idsL_setE idsL_rep List.append_eq Nat.mul_one ti2 ti3 ti4 ti5 ti6 ti7 ti8 ti9 ti10 ti11 ti12 ti13 ti14 ti15 ti16 ti17 ti18 ti19 ti21 ti22 ti23 ti25 ti26 ti27 ti32 ti33 ti34 ti41 ti42 ti50 ti51 ti56 ti60 ti61 ti63 ti64 ti74 ti76 ti89 ti92 ti96 ti97 ti98 ti99 ti100 ti101 ti102 ti104 ti105 ti106 ti107 ti108 Row.D Node.D Row.D_len Node.D_len
noncomputable def ref08_Subset_l0 (v1 : Int) (v2 : Int) (v6 : List Int) (v7 : Int) : Option ((List Int × Int) ⊕ (List Int)) :=
  bif decide (v7 < v1) then (chk (0 ≤ (IntKind.u64.wrap (v7))) (bif decide (((Go.bits .and .i64 ((v2 / 2 ^ (min (IntKind.u64.wrap (v7)).toNat 64))) 1)) = 1) then (chk ((v6.length + 1) * 8 ≤ 140737488355328) (contO (((v6 ++ [v7]), IntKind.i64.wrap (v7 + 1)) : List Int × Int))) else (contO ((v6, IntKind.i64.wrap (v7 + 1)) : List Int × Int)))) else (exitO (some (v6 : List Int)))
noncomputable def ref08_Subset (v1 : Int) (v2 : Int) : Option (List Int) :=
  iter (fun g : List Int × Int => ref08_Subset_l0 v1 v2 g.1 g.2) ([], 0)
theorem ref08_Subset_ok (v1 : Int) (v2 : Int) (r : List Int) (hx : ref08_Subset v1 v2 = some r) :
    ACalls Try.prog 34 [.d (.int .i64 v1), .d (.int .i64 v2)] [] (.arr 2000 0 r.length) [(2000, some (.arr 3 1 (List.map iD r)))] := by
  refine ACalls.of_sem (n := 23) 0 [4] (fn := Try.f34) Try.func34 rfl rfl (.one rfl) rfl (by simp) (by intro i; simp only [hget]; (repeat' split) <;> simp <;> omega) ?_
  unfold ref08_Subset at hx
  refine Walk.seq (Walk.region' rfl fun K hK => ?_)
  simp only [go_sem, seval]
  refine hK _ ?_
  clear hK K
  refine Walk.seq (Walk.region' rfl fun K hK => ?_)
  simp only [go_sem, seval]
  refine hK _ ?_
  clear hK K
  refine Walk.seq (Walk.seq (Walk.region' rfl fun K hK => ?_))
  simp only [go_sem, seval]
  refine hK _ ?_
  clear hK K
  refine Walk.block (Walk.loop ?_)
  refine Walk.weaken ⟨[(0, .d (.int .i64 v1)), (1, .d (.int .i64 v2)), (5, .nils), (6, .d (.int .i64 0))], []⟩ (by simp <;> omega) (by simp <;> omega) ?_
  refine Walk.up 1002 3 1 [(0, .d (.int .i64 v1)), (1, .d (.int .i64 v2)), (5, .arr 1002 0 0), (6, .d (.int .i64 0))] [] (by simp) (by simp) (by omega) (by simp) (by simp) (by simp) ?_
  refine Walk.weaken ⟨[(0, .d (.int .i64 v1)), (1, .d (.int .i64 v2)), (5, .arr 1002 0 0), (6, .d (.int .i64 0))], [(1002, some (.arr 3 1 (List.map iD [])))]⟩ (by simp <;> omega) (by simp <;> omega) ?_
  refine Walk.iter (σ := List Int × Int) (fun g => ⟨[(0, .d (.int .i64 v1)), (1, .d (.int .i64 v2)), (5, .arr 1002 0 g.1.length), (6, .d (.int .i64 g.2))], [(1002, some (.arr 3 1 (List.map iD g.1)))]⟩) (fun g : List Int × Int => ref08_Subset_l0 v1 v2 g.1 g.2) _ (fun g y43 hx ih33 hr34 => ?_) ([], 0) hx
  obtain ⟨v6, v7⟩ := g
  unfold ref08_Subset_l0 at hx
  try dsimp only at hx ⊢
  refine Walk.seq (Walk.seq (Walk.region' rfl fun K hK => ?_))
  simp only [go_sem, seval]
  refine hK _ ?_
  clear hK K
  refine Walk.condO rfl hx (fun c37 hx => ?_) (fun c37 hx => ?_)
  · refine Walk.skip (Walk.seq (Walk.block (Walk.seq (Walk.region' rfl fun K hK => ?_))))
    obtain ⟨k38, hx⟩ := chk_elim hx
    simp only [go_sem, seval, c37, k38]
    repeat refine And.intro (by first | omega | (simp; done) | (simp; omega)) ?_
    refine hK _ ?_
    clear hK K
    refine Walk.condO rfl hx (fun c39 hx => ?_) (fun c39 hx => ?_)
    · refine Walk.region' rfl fun K hK => ?_
      obtain ⟨k40, hx⟩ := chk_elim hx
      simp only [go_sem, seval, c37, k38, c39, k40]
      repeat refine And.intro (by first | omega | (simp; done) | (simp; omega)) ?_
      refine hK _ ?_
      clear hK K
      refine Walk.weaken ⟨[(0, .d (.int .i64 v1)), (1, .d (.int .i64 v2)), (5, .arr 1002 0 ((v6 ++ [v7]).length)), (6, .d (.int .i64 v7))], [(1002, some (.arr 3 1 (List.map iD (v6 ++ [v7]))))]⟩ (by simp [c37, k38, c39, k40] <;> omega) (by simp [c37, k38, c39, k40] <;> omega) ?_
      refine Walk.inBlock (Walk.region' rfl fun K hK => ?_)
      simp only [go_sem, seval, c37, k38, c39, k40]
      refine hK _ ?_
      clear hK K
      exact Walk.weaken _ (by simp [c37, k38, c39, k40] <;> omega) (by simp [c37, k38, c39, k40] <;> omega) (ih33 _ (cont_elim hx))
    refine Walk.skip (Walk.inBlock (Walk.region' rfl fun K hK => ?_))
    simp only [go_sem, seval, c37, k38, c39]
    refine hK _ ?_
    clear hK K
    exact Walk.weaken _ (by simp [c37, k38, c39] <;> omega) (by simp [c37, k38, c39] <;> omega) (ih33 _ (cont_elim hx))
  refine Walk.exit rfl ?_
  obtain ⟨z41, e42, hx⟩ := exit_elim hx
  rw [hr34 z41 e42] at hx
  refine Walk.seq (Walk.region' rfl fun K hK => ?_)
  simp only [go_sem, seval, c37]
  refine hK _ ?_
  clear hK K
  refine Walk.weaken ⟨[(4, .arr 1002 0 v6.length)], [(1002, some (.arr 3 1 (List.map iD v6)))]⟩ (by simp [c37] <;> omega) (by simp [c37] <;> omega) ?_
  refine Walk.rename 1002 2000 (by omega) (by omega) (by simp) (by simp) ?_
  simp only [renE, renL, AV.ren, AV.rens, AObj.ren, swp, Option.map_some, reduceIte, Nat.reduceEqDiff]
  obtain rfl := Option.some.inj hx
  exact Walk.ret ⟨by simp [c37], by simp [c37]⟩
end Go.AX

