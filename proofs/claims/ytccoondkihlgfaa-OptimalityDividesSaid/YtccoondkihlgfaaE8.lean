import Derived.Test.YtccoondkihlgfaaE7
set_option linter.unusedVariables false
set_option linter.unusedSimpArgs false
set_option maxRecDepth 20000
set_option maxHeartbeats 4000000
namespace Go.AX
open Go.Proofs
attribute [local simp] spl_len take_snoc take_cons_drop cons_rep cons_tail iA bA take_set_len idsL_rep idsL_iA idsL_bA idsL_sA idsL_set_mem idsL_sub sA_def List.map_replicate frVs_setS frVs_self frV_arr take_map_len subE subH eget hget upE upV upH upO_refl upO_box upVs freshE freshH freshO AV.ids AV.idsL ids_box ids_arr frE frV_refl frV_arr frH frO_refl frO_box frVs newOk evalA AV.viewXs AV.viewX AV.viewXP AV.viewXPs AV.viewPs AV.viewP AV.flat AV.flatL D.flat arrsOnly flatObjs newNames subOf closedIn allSome dstOk newOrOld avD avDp zv_i64 zv_u8 zv_bool zv_nils zv_nilp zv_str retAV aLoad cut TI.isAgg nlE nlH nlO_refl nlO_box nlVs nlV_refl nlV_nil iD uD bD tD lD List.map_set ti2 ti3 ti4 ti5 ti6 ti7 ti8 ti9 ti10 ti11 ti12 ti13 ti14 ti15 ti16 ti17 ti18 ti19 ti21 ti22 ti23 ti25 ti26 ti27 ti32 ti33 ti34 ti41 ti42 ti50 ti51 ti56 ti60 ti61 ti63 ti64 ti74 ti76 ti89 ti92 ti96 ti97 ti98 ti99 ti100 ti101 ti102 ti104 ti105 ti106 ti107 ti108 Row.D Node.D
attribute [local go_sem] V1_none V1_some V_nil V_move V_assign V_pick V_bin V_un V_extract V_makeFunc V_convert V_nilCheck V_fieldAddr V_field V_load V_store V_indexAddr V_index V_slice V_slice0 V_alloc V_box V_build V_buildSlice V_makeSlice V_len V_min V_max V_append V_copy V_call V_guard VGs_some VG_tt VG_ff VG_tf VG_ft VG_u gslot ok fail po so aNew dstOk freshU addLog_none' addLog_some' St.step putL evalA eget hget argE freshE freshO freshH AV.ids AV.idsL AV.ok1 AV.cells ids_box ids_arr liveBox liveArr isArr isObj isBoxB aPick isNilC aNilEq aBin aUn aExtract aMakeFunc aConvert aNilCheck aFieldAddr aField cut aLen aIndexAddr aMin aMax aIndex bnd isInt aSlice aSlice0 aLoad aAlloc aBox aStore splice aMake aMakeBox aCopy cellsOf cellsOfP updIds newIds zv_i64 zv_u8 zv_bool zv_nils zv_nilp cond_bool cond_int TI.isAgg TK.isSl TK.el okL avDps avDp avD List.map_cons List.map_nil List.append_nil List.nil_append List.cons_append List.length_cons List.length_nil List.take_succ_cons List.take_zero List.drop_succ_cons List.drop_zero List.take_nil List.drop_nil List.headD_cons List.getD_cons_zero List.getD_cons_succ List.mem_cons List.not_mem_nil List.getElem?_cons_zero List.getElem?_cons_succ List.toList_toArray Option.getD_some Option.getD_none Option.bind_some Option.bind_none Option.map_some Option.map_none Option.getD Option.toList Nat.zero_add Nat.add_zero Nat.zero_le Nat.le_refl if_true if_false ite_self true_and and_true false_and and_false true_or or_true false_or or_false not_true_eq_false not_false_eq_true ne_eq cond_true cond_false Bool.true_eq_false Bool.false_eq_true forall_const decide_true decide_false implies_true true_implies and_self or_self Nat.succ_ne_zero Int.toNat_natCast Int.natCast_nonneg List.length_map decide_eq_true_eq AV.views AV.view AV.viewPs AV.viewP arrsOnly newNames List.length_append List.append_assoc Bool.not_true Bool.not_false AV.ok2 aBuild fillR fillP aBuildSlice dense elP aAppend esOf esOfP List.forall_mem_cons forall_eq_or_imp forall_eq zD zDp map_take' map_drop' iD uD bD tD lD iD_len uD_len bD_len tD_len lD_len LB Int.cast_ofNat_Int Int.natCast_zero Int.natCast_one head_len all_len List.head?_cons List.head?_nil Bool.not_not eq_self List.take_length zv_str aConv byteOf isByte map_bcell bytes_all str_map cellsEq cellsP AV.kd Bool.and_true Bool.true_and Bool.and_false Bool.false_and spl_map spl_len mkbox_i mkbox_b flat_iD dataL_iA dataL_bA zv_u64 flat_iD' flat_len dataL_tA dataL_ttA spl_mt spl_mtt mkbox_s splice_one take_cons_drop cons_rep cons_tail hd_set hd_set0 List.length_replicate iA bA sA_def List.set_set List.length_set idsL_iA idsL_bA idsL_sA idsL_setE idsL_rep List.append_eq Nat.mul_one ti2 ti3 ti4 ti5 ti6 ti7 ti8 ti9 ti10 ti11 ti12 ti13 ti14 ti15 ti16 ti17 ti18 ti19 ti21 ti22 ti23 ti25 ti26 ti27 ti32 ti33 ti34 ti41 ti42 ti50 ti51 ti56 ti60 ti61 ti63 ti64 ti74 ti76 ti89 ti92 ti96 ti97 ti98 ti99 ti100 ti101 ti102 ti104 ti105 ti106 ti107 ti108 Row.D Node.D Row.D_len Node.D_len
noncomputable def ref06_Has_l0 (v1 : List Int) (v2 : Int) (v9 : Int) : Option ((Int) ⊕ (Bool)) :=
  bif decide (v9 < (v1.length : Int)) then ((rd v1 v9).bind fun v11 => bif decide (v11 = v2) then (exitO (some (true : Bool))) else (contO (IntKind.i64.wrap (v9 + 1) : Int))) else (exitO (some (false : Bool)))
noncomputable def ref06_Has (v1 : List Int) (v2 : Int) : Option (Bool) :=
  iter (fun g : Int => ref06_Has_l0 v1 v2 g) 0
theorem ref06_Has_ok (v1 : List Int) (v2 : Int) (r : Bool) (hx : ref06_Has v1 v2 = some r) :
    ACalls Try.prog 61 [.d (.sl (List.map iD v1)), .d (.int .i64 v2)] [] (.d (.bool r)) [] := by
  refine ACalls.of_sem (n := 18) 0 [4] (fn := Try.f61) Try.func61 rfl rfl (.one rfl) rfl (by simp) (by intro i; simp only [hget]; (repeat' split) <;> simp <;> omega) ?_
  unfold ref06_Has at hx
  refine Walk.seq (Walk.region' rfl fun K hK => ?_)
  simp only [go_sem, seval]
  refine hK _ ?_
  clear hK K
  refine Walk.seq (Walk.seq (Walk.region' rfl fun K hK => ?_))
  simp only [go_sem, seval]
  refine hK _ ?_
  clear hK K
  refine Walk.block (Walk.loop ?_)
  refine Walk.weaken ⟨[(0, .d (.sl (List.map iD v1))), (1, .d (.int .i64 v2)), (5, .d (.int .i64 0))], []⟩ (by simp <;> omega) (by simp <;> omega) ?_
  refine Walk.iter (σ := Int) (fun g => ⟨[(0, .d (.sl (List.map iD v1))), (1, .d (.int .i64 v2)), (5, .d (.int .i64 g))], []⟩) (fun g : Int => ref06_Has_l0 v1 v2 g) _ (fun v9 y59 hx ih45 hr46 => ?_) 0 hx
  unfold ref06_Has_l0 at hx
  try dsimp only at hx ⊢
  refine Walk.seq (Walk.seq (Walk.region' rfl fun K hK => ?_))
  simp only [go_sem, seval]
  refine hK _ ?_
  clear hK K
  refine Walk.condO rfl hx (fun c49 hx => ?_) (fun c49 hx => ?_)
  · refine Walk.skip (Walk.seq (Walk.block (Walk.seq (Walk.region' rfl fun K hK => ?_))))
    obtain ⟨v11, r50, a51, b52, c53, hx⟩ := rd_elim hx
    simp only [go_sem, seval, c49, a51, b52, c53]
    repeat refine And.intro (by first | omega | (simp; done) | (simp; omega)) ?_
    refine hK _ ?_
    clear hK K
    refine Walk.condO rfl hx (fun c54 hx => ?_) (fun c54 hx => ?_)
    · refine Walk.seq (Walk.region' rfl fun K hK => ?_)
      simp only [go_sem, seval, c49, a51, b52, c53, c54]
      refine hK _ ?_
      clear hK K
      obtain ⟨z55, e56, hx⟩ := exit_elim hx
      rw [hr46 z55 e56] at hx
      obtain rfl := Option.some.inj hx
      exact Walk.ret ⟨by simp [c49, a51, b52, c53, c54], by simp [c49, a51, b52, c53, c54]⟩
    refine Walk.skip (Walk.inBlock (Walk.region' rfl fun K hK => ?_))
    simp only [go_sem, seval, c49, a51, b52, c53, c54]
    refine hK _ ?_
    clear hK K
    exact Walk.weaken _ (by simp [c49, a51, b52, c53, c54] <;> omega) (by simp [c49, a51, b52, c53, c54] <;> omega) (ih45 _ (cont_elim hx))
  refine Walk.exit rfl ?_
  obtain ⟨z57, e58, hx⟩ := exit_elim hx
  rw [hr46 z57 e58] at hx
  refine Walk.seq (Walk.region' rfl fun K hK => ?_)
  simp only [go_sem, seval, c49]
  refine hK _ ?_
  clear hK K
  obtain rfl := Option.some.inj hx
  exact Walk.ret ⟨by simp [c49], by simp [c49]⟩
noncomputable def law09_complete_l0 (v1 : List Int) (v2 : List Int) (v21 : Int) : Option ((Int) ⊕ (Bool)) :=
  bif decide (v21 < (v1.length : Int)) then ((rd v1 v21).bind fun v26 => bif decide (v26 = 1) then ((ref06_Has v2 v21).bind fun v27 => bif !v27 then (exitO (some (false : Bool))) else (bif decide (v26 = 0) then ((ref06_Has v2 v21).bind fun v28 => bif v28 then (exitO (some (false : Bool))) else (contO (IntKind.i64.wrap (v21 + 1) : Int))) else (contO (IntKind.i64.wrap (v21 + 1) : Int)))) else (bif decide (v26 = 0) then ((ref06_Has v2 v21).bind fun v29 => bif v29 then (exitO (some (false : Bool))) else (contO (IntKind.i64.wrap (v21 + 1) : Int))) else (contO (IntKind.i64.wrap (v21 + 1) : Int)))) else (exitO (some (true : Bool)))
noncomputable def law09_complete (v1 : List Int) (v2 : List Int) : Option (Bool) :=
  iter (fun g : Int => law09_complete_l0 v1 v2 g) 0
theorem law09_complete_ok (v1 : List Int) (v2 : List Int) (r : Bool) (hx : law09_complete v1 v2 = some r) :
    ACalls Try.prog 36 [.d (.sl (List.map iD v1)), .d (.sl (List.map iD v2))] [] (.d (.bool r)) [] := by
  refine ACalls.of_sem (n := 35) 0 [4] (fn := Try.f36) Try.func36 rfl rfl (.one rfl) rfl (by simp) (by intro i; simp only [hget]; (repeat' split) <;> simp <;> omega) ?_
  unfold law09_complete at hx
  refine Walk.seq (Walk.region' rfl fun K hK => ?_)
  simp only [go_sem, seval]
  refine hK _ ?_
  clear hK K
  refine Walk.seq (Walk.seq (Walk.region' rfl fun K hK => ?_))
  simp only [go_sem, seval]
  refine hK _ ?_
  clear hK K
  refine Walk.block (Walk.loop ?_)
  refine Walk.weaken ⟨[(0, .d (.sl (List.map iD v1))), (1, .d (.sl (List.map iD v2))), (5, .d (.int .i64 0))], []⟩ (by simp <;> omega) (by simp <;> omega) ?_
  refine Walk.iter (σ := Int) (fun g => ⟨[(0, .d (.sl (List.map iD v1))), (1, .d (.sl (List.map iD v2))), (5, .d (.int .i64 g))], []⟩) (fun g : Int => law09_complete_l0 v1 v2 g) _ (fun v21 y111 hx ih85 hr86 => ?_) 0 hx
  unfold law09_complete_l0 at hx
  try dsimp only at hx ⊢
  refine Walk.seq (Walk.seq (Walk.region' rfl fun K hK => ?_))
  simp only [go_sem, seval]
  refine hK _ ?_
  clear hK K
  refine Walk.condO rfl hx (fun c89 hx => ?_) (fun c89 hx => ?_)
  · refine Walk.skip (Walk.seq (Walk.block (Walk.seq (Walk.region' rfl fun K hK => ?_))))
    obtain ⟨v26, r90, a91, b92, c93, hx⟩ := rd_elim hx
    simp only [go_sem, seval, c89, a91, b92, c93]
    repeat refine And.intro (by first | omega | (simp; done) | (simp; omega)) ?_
    refine VGdO hx (fun g94 hx => ?_) (fun g94 hx => ?_)
    · obtain ⟨v27, h95, hx⟩ := bind_elim hx
      simp only [go_sem, seval, c89, a91, b92, c93, g94]
      refine VCl.pure rfl (by simp only [go_sem, seval, c89, a91, b92, c93, g94]; try simp) (ref06_Has_ok v2 v21 _ h95) (by simp only [go_sem, seval, c89, a91, b92, c93, g94]; try simp) (by simp only [go_sem, seval, c89, a91, b92, c93, g94]; try simp) (by simp only [go_sem, seval, c89, a91, b92, c93, g94]; try simp) (by simp only [go_sem, seval, c89, a91, b92, c93, g94]; try simp) (by simp only [go_sem, seval, c89, a91, b92, c93, g94]; try simp) (by simp only [go_sem, seval, c89, a91, b92, c93, g94]; try simp) ?_
      simp only [go_sem, seval, c89, a91, b92, c93, g94]
      refine VGdO hx (fun g96 hx => ?_) (fun g96 hx => ?_)
      · simp only [go_sem, seval, c89, a91, b92, c93, g94, g96]
        refine hK _ ?_
        clear hK K
        refine Walk.condT rfl (Walk.seq (Walk.region' rfl fun K hK => ?_))
        simp only [go_sem, seval, c89, a91, b92, c93, g94, g96]
        refine hK _ ?_
        clear hK K
        obtain ⟨z97, e98, hx⟩ := exit_elim hx
        rw [hr86 z97 e98] at hx
        obtain rfl := Option.some.inj hx
        exact Walk.ret ⟨by simp [c89, a91, b92, c93, g94, g96], by simp [c89, a91, b92, c93, g94, g96]⟩
      simp only [go_sem, seval, c89, a91, b92, c93, g94, g96]
      repeat refine And.intro (by first | omega | (simp; done) | (simp; omega)) ?_
      refine VGdO hx (fun g99 hx => ?_) (fun g99 hx => ?_)
      · obtain ⟨v28, h100, hx⟩ := bind_elim hx
        simp only [go_sem, seval, c89, a91, b92, c93, g94, g96, g99]
        refine VCl.pure rfl (by simp only [go_sem, seval, c89, a91, b92, c93, g94, g96, g99]; try simp) (ref06_Has_ok v2 v21 _ h100) (by simp only [go_sem, seval, c89, a91, b92, c93, g94, g96, g99]; try simp) (by simp only [go_sem, seval, c89, a91, b92, c93, g94, g96, g99]; try simp) (by simp only [go_sem, seval, c89, a91, b92, c93, g94, g96, g99]; try simp) (by simp only [go_sem, seval, c89, a91, b92, c93, g94, g96, g99]; try simp) (by simp only [go_sem, seval, c89, a91, b92, c93, g94, g96, g99]; try simp) (by simp only [go_sem, seval, c89, a91, b92, c93, g94, g96, g99]; try simp) ?_
        simp only [go_sem, seval, c89, a91, b92, c93, g94, g96, g99]
        refine hK _ ?_
        clear hK K
        refine Walk.condO rfl hx (fun c101 hx => ?_) (fun c101 hx => ?_)
        · refine Walk.seq (Walk.region' rfl fun K hK => ?_)
          simp only [go_sem, seval, c89, a91, b92, c93, g94, g96, g99, c101]
          refine hK _ ?_
          clear hK K
          obtain ⟨z102, e103, hx⟩ := exit_elim hx
          rw [hr86 z102 e103] at hx
          obtain rfl := Option.some.inj hx
          exact Walk.ret ⟨by simp [c89, a91, b92, c93, g94, g96, g99, c101], by simp [c89, a91, b92, c93, g94, g96, g99, c101]⟩
        refine Walk.skip (Walk.inBlock (Walk.region' rfl fun K hK => ?_))
        simp only [go_sem, seval, c89, a91, b92, c93, g94, g96, g99, c101]
        refine hK _ ?_
        clear hK K
        exact Walk.weaken _ (by simp [c89, a91, b92, c93, g94, g96, g99, c101] <;> omega) (by simp [c89, a91, b92, c93, g94, g96, g99, c101] <;> omega) (ih85 _ (cont_elim hx))
      simp only [go_sem, seval, c89, a91, b92, c93, g94, g96, g99]
      refine hK _ ?_
      clear hK K
      refine Walk.condF rfl (Walk.skip (Walk.inBlock (Walk.region' rfl fun K hK => ?_)))
      simp only [go_sem, seval, c89, a91, b92, c93, g94, g96, g99]
      refine hK _ ?_
      clear hK K
      exact Walk.weaken _ (by simp [c89, a91, b92, c93, g94, g96, g99] <;> omega) (by simp [c89, a91, b92, c93, g94, g96, g99] <;> omega) (ih85 _ (cont_elim hx))
    simp only [go_sem, seval, c89, a91, b92, c93, g94]
    repeat refine And.intro (by first | omega | (simp; done) | (simp; omega)) ?_
    refine VGdO hx (fun g104 hx => ?_) (fun g104 hx => ?_)
    · obtain ⟨v29, h105, hx⟩ := bind_elim hx
      simp only [go_sem, seval, c89, a91, b92, c93, g94, g104]
      refine VCl.pure rfl (by simp only [go_sem, seval, c89, a91, b92, c93, g94, g104]; try simp) (ref06_Has_ok v2 v21 _ h105) (by simp only [go_sem, seval, c89, a91, b92, c93, g94, g104]; try simp) (by simp only [go_sem, seval, c89, a91, b92, c93, g94, g104]; try simp) (by simp only [go_sem, seval, c89, a91, b92, c93, g94, g104]; try simp) (by simp only [go_sem, seval, c89, a91, b92, c93, g94, g104]; try simp) (by simp only [go_sem, seval, c89, a91, b92, c93, g94, g104]; try simp) (by simp only [go_sem, seval, c89, a91, b92, c93, g94, g104]; try simp) ?_
      simp only [go_sem, seval, c89, a91, b92, c93, g94, g104]
      refine hK _ ?_
      clear hK K
      refine Walk.condO rfl hx (fun c106 hx => ?_) (fun c106 hx => ?_)
      · refine Walk.seq (Walk.region' rfl fun K hK => ?_)
        simp only [go_sem, seval, c89, a91, b92, c93, g94, g104, c106]
        refine hK _ ?_
        clear hK K
        obtain ⟨z107, e108, hx⟩ := exit_elim hx
        rw [hr86 z107 e108] at hx
        obtain rfl := Option.some.inj hx
        exact Walk.ret ⟨by simp [c89, a91, b92, c93, g94, g104, c106], by simp [c89, a91, b92, c93, g94, g104, c106]⟩
      refine Walk.skip (Walk.inBlock (Walk.region' rfl fun K hK => ?_))
      simp only [go_sem, seval, c89, a91, b92, c93, g94, g104, c106]
      refine hK _ ?_
      clear hK K
      exact Walk.weaken _ (by simp [c89, a91, b92, c93, g94, g104, c106] <;> omega) (by simp [c89, a91, b92, c93, g94, g104, c106] <;> omega) (ih85 _ (cont_elim hx))
    simp only [go_sem, seval, c89, a91, b92, c93, g94, g104]
    refine hK _ ?_
    clear hK K
    refine Walk.condF rfl (Walk.skip (Walk.inBlock (Walk.region' rfl fun K hK => ?_)))
    simp only [go_sem, seval, c89, a91, b92, c93, g94, g104]
    refine hK _ ?_
    clear hK K
    exact Walk.weaken _ (by simp [c89, a91, b92, c93, g94, g104] <;> omega) (by simp [c89, a91, b92, c93, g94, g104] <;> omega) (ih85 _ (cont_elim hx))
  refine Walk.exit rfl ?_
  obtain ⟨z109, e110, hx⟩ := exit_elim hx
  rw [hr86 z109 e110] at hx
  refine Walk.seq (Walk.region' rfl fun K hK => ?_)
  simp only [go_sem, seval, c89]
  refine hK _ ?_
  clear hK K
  obtain rfl := Option.some.inj hx
  exact Walk.ret ⟨by simp [c89], by simp [c89]⟩
end Go.AX

