import Derived.Test.YtmggphnhfegffaaE3
set_option linter.unusedVariables false
set_option linter.unusedSimpArgs false
set_option maxRecDepth 20000
set_option maxHeartbeats 4000000
namespace Go.AX
open Go.Proofs
attribute [local simp] subE subH eget hget upE upV upH upO_refl upO_box upVs freshE freshH freshO AV.ids AV.idsL ids_box ids_arr frE frV_refl frV_arr frH frO_refl frO_box frVs newOk evalA AV.viewXs AV.viewX AV.viewXP AV.viewXPs AV.viewPs AV.viewP AV.flat AV.flatL D.flat arrsOnly flatObjs newNames subOf closedIn allSome dstOk newOrOld avD avDp zv_i64 zv_u8 zv_bool zv_nils zv_nilp retAV aLoad cut TI.isAgg nlE nlH nlO_refl nlO_box nlVs nlV_refl nlV_nil iD uD bD tD lD List.map_set ti2 ti3 ti4 ti5 ti6 ti7 ti8 ti9 ti10 ti11 ti12 ti13 ti14 ti15 ti16 ti17 ti18 ti19 ti21 ti22 ti23 ti25 ti26 ti27 ti31 ti32 ti41 ti51 ti52 ti53 ti54 ti56 ti58 ti60 ti61 ti62 ti67 ti68 ti71 ti72 ti79 ti80 ti81 ti82 ti83 ti84 ti85 ti89 ti93 ti94 ti95 ti110 ti124 ti125 ti126 ti127 ti128 ti129 ti130 ti131 ti133 ti134 ti135 ti136 ti137 Row.D TRange.D Ref.D Form.D
attribute [local go_sem] V1_none V1_some V_nil V_move V_assign V_pick V_bin V_un V_extract V_makeFunc V_convert V_nilCheck V_fieldAddr V_field V_load V_store V_indexAddr V_index V_slice V_slice0 V_alloc V_box V_build V_buildSlice V_makeSlice V_len V_min V_max V_append V_call V_guard VGs_some VG_tt VG_ff VG_tf VG_ft VG_u gslot ok fail po so aNew dstOk freshU addLog_none' addLog_some' St.step putL evalA eget hget argE freshE freshO freshH AV.ids AV.idsL AV.ok1 AV.cells ids_box ids_arr liveBox liveArr isArr aPick aBin aUn aExtract aMakeFunc aConvert aNilCheck aFieldAddr aField cut aLen aIndexAddr aMin aMax aIndex bnd isInt aSlice aSlice0 aLoad aAlloc aBox aStore splice aMake updIds newIds zv_i64 zv_u8 zv_bool zv_nils zv_nilp cond_bool cond_int TI.isAgg TK.isSl TK.el okL avDps avDp avD List.map_cons List.map_nil List.append_nil List.nil_append List.cons_append List.length_cons List.length_nil List.take_succ_cons List.take_zero List.drop_succ_cons List.drop_zero List.take_nil List.drop_nil List.headD_cons List.getD_cons_zero List.getD_cons_succ List.mem_cons List.not_mem_nil List.getElem?_cons_zero List.getElem?_cons_succ List.toList_toArray Option.getD_some Option.getD_none Option.bind_some Option.bind_none Option.map_some Option.map_none Option.getD Option.toList Nat.zero_add Nat.add_zero Nat.zero_le Nat.le_refl if_true if_false ite_self true_and and_true false_and and_false true_or or_true false_or or_false not_true_eq_false not_false_eq_true ne_eq cond_true cond_false Bool.true_eq_false Bool.false_eq_true forall_const decide_true decide_false implies_true true_implies and_self or_self Nat.succ_ne_zero Int.toNat_natCast Int.natCast_nonneg List.length_map decide_eq_true_eq AV.views AV.view AV.viewPs AV.viewP arrsOnly newNames List.length_append List.append_assoc Bool.not_true Bool.not_false AV.ok2 aBuild fillR fillP aBuildSlice dense elP aAppend esOf esOfP List.forall_mem_cons forall_eq_or_imp forall_eq zD zDp map_take' map_drop' iD uD bD tD lD iD_len uD_len bD_len tD_len lD_len LB Int.cast_ofNat_Int Int.natCast_zero Int.natCast_one head_len all_len List.head?_cons List.head?_nil Bool.not_not eq_self ti2 ti3 ti4 ti5 ti6 ti7 ti8 ti9 ti10 ti11 ti12 ti13 ti14 ti15 ti16 ti17 ti18 ti19 ti21 ti22 ti23 ti25 ti26 ti27 ti31 ti32 ti41 ti51 ti52 ti53 ti54 ti56 ti58 ti60 ti61 ti62 ti67 ti68 ti71 ti72 ti79 ti80 ti81 ti82 ti83 ti84 ti85 ti89 ti93 ti94 ti95 ti110 ti124 ti125 ti126 ti127 ti128 ti129 ti130 ti131 ti133 ti134 ti135 ti136 ti137 Row.D TRange.D Ref.D Form.D Row.D_len TRange.D_len Ref.D_len Form.D_len
noncomputable def law08_complete_l0 (v1 : List Int) (v2 : List Int) (v21 : Int) : Option ((Int) ⊕ (Bool)) :=
  bif decide (v21 < (v1.length : Int)) then ((rd v1 v21).bind fun v26 => bif decide (v26 = 1) then ((ref06_Has v2 v21).bind fun v27 => bif !v27 then (exitO (some (false : Bool))) else (bif decide (v26 = 0) then ((ref06_Has v2 v21).bind fun v28 => bif v28 then (exitO (some (false : Bool))) else (contO (IntKind.i64.wrap (v21 + 1) : Int))) else (contO (IntKind.i64.wrap (v21 + 1) : Int)))) else (bif decide (v26 = 0) then ((ref06_Has v2 v21).bind fun v29 => bif v29 then (exitO (some (false : Bool))) else (contO (IntKind.i64.wrap (v21 + 1) : Int))) else (contO (IntKind.i64.wrap (v21 + 1) : Int)))) else (exitO (some (true : Bool)))
noncomputable def law08_complete (v1 : List Int) (v2 : List Int) : Option (Bool) :=
  iter (fun g : Int => law08_complete_l0 v1 v2 g) 0
theorem law08_complete_ok (v1 : List Int) (v2 : List Int) (r : Bool) (hx : law08_complete v1 v2 = some r) :
    ACalls Try.prog 24 [.d (.sl (List.map iD v1)), .d (.sl (List.map iD v2))] [] (.d (.bool r)) [] := by
  refine ACalls.of_sem (n := 35) 0 [4] (fn := Try.f24) Try.func24 rfl rfl (.one rfl) rfl (by simp) (by intro i; simp only [hget]; (repeat' split) <;> simp <;> omega) ?_
  unfold law08_complete at hx
  refine Walk.seq (Walk.region' rfl fun K hK => ?_)
  simp only [go_sem, seval]
  refine hK _ ?_
  clear hK K
  refine Walk.seq (Walk.seq (Walk.region' rfl fun K hK => ?_))
  simp only [go_sem, seval]
  refine hK _ ?_
  clear hK K
  refine Walk.block (Walk.loop ?_)
  refine Walk.weaken ⟨[(0, .d (.sl (List.map iD v1))), (1, .d (.sl (List.map iD v2))), (5, .d (.int .i64 0))], []⟩ (by simp) (by simp) ?_
  refine Walk.iter (σ := Int) (fun g => ⟨[(0, .d (.sl (List.map iD v1))), (1, .d (.sl (List.map iD v2))), (5, .d (.int .i64 g))], []⟩) (fun g : Int => law08_complete_l0 v1 v2 g) _ (fun v21 y111 hx ih85 hr86 => ?_) 0 hx
  unfold law08_complete_l0 at hx
  try dsimp only at hx ⊢
  refine Walk.seq (Walk.seq (Walk.region' rfl fun K hK => ?_))
  simp only [go_sem, seval]
  refine hK _ ?_
  clear hK K
  refine Walk.condO rfl hx (fun c89 hx => ?_) (fun c89 hx => ?_)
  · refine Walk.skip (Walk.seq (Walk.block (Walk.seq (Walk.region' rfl fun K hK => ?_))))
    obtain ⟨v26, r90, a91, b92, c93, hx⟩ := rd_elim hx
    simp only [go_sem, seval, c89, a91, b92, c93]
    repeat refine And.intro (by first | omega | (simp; done) | (simp; omega)) ?_
    refine VGdO hx (fun g94 hx => ?_) (fun g94 hx => ?_)
    · obtain ⟨v27, h95, hx⟩ := bind_elim hx
      simp only [go_sem, seval, c89, a91, b92, c93, g94]
      refine VCl.pure rfl (by simp only [go_sem, seval, c89, a91, b92, c93, g94]; try simp) (ref06_Has_ok v2 v21 _ h95) (by simp only [go_sem, seval, c89, a91, b92, c93, g94]; try simp) (by simp only [go_sem, seval, c89, a91, b92, c93, g94]; try simp) (by simp only [go_sem, seval, c89, a91, b92, c93, g94]; try simp) (by simp only [go_sem, seval, c89, a91, b92, c93, g94]; try simp) (by simp only [go_sem, seval, c89, a91, b92, c93, g94]; try simp) (by simp only [go_sem, seval, c89, a91, b92, c93, g94]; try simp) ?_
      simp only [go_sem, seval, c89, a91, b92, c93, g94]
      refine VGdO hx (fun g96 hx => ?_) (fun g96 hx => ?_)
      · simp only [go_sem, seval, c89, a91, b92, c93, g94, g96]
        refine hK _ ?_
        clear hK K
        refine Walk.condT rfl (Walk.seq (Walk.region' rfl fun K hK => ?_))
        simp only [go_sem, seval, c89, a91, b92, c93, g94, g96]
        refine hK _ ?_
        clear hK K
        obtain ⟨z97, e98, hx⟩ := exit_elim hx
        rw [hr86 z97 e98] at hx
        obtain rfl := Option.some.inj hx
        exact Walk.ret ⟨by simp [c89, a91, b92, c93, g94, g96], by simp [c89, a91, b92, c93, g94, g96]⟩
      · simp only [go_sem, seval, c89, a91, b92, c93, g94, g96]
        repeat refine And.intro (by first | omega | (simp; done) | (simp; omega)) ?_
        refine VGdO hx (fun g99 hx => ?_) (fun g99 hx => ?_)
        · obtain ⟨v28, h100, hx⟩ := bind_elim hx
          simp only [go_sem, seval, c89, a91, b92, c93, g94, g96, g99]
          refine VCl.pure rfl (by simp only [go_sem, seval, c89, a91, b92, c93, g94, g96, g99]; try simp) (ref06_Has_ok v2 v21 _ h100) (by simp only [go_sem, seval, c89, a91, b92, c93, g94, g96, g99]; try simp) (by simp only [go_sem, seval, c89, a91, b92, c93, g94, g96, g99]; try simp) (by simp only [go_sem, seval, c89, a91, b92, c93, g94, g96, g99]; try simp) (by simp only [go_sem, seval, c89, a91, b92, c93, g94, g96, g99]; try simp) (by simp only [go_sem, seval, c89, a91, b92, c93, g94, g96, g99]; try simp) (by simp only [go_sem, seval, c89, a91, b92, c93, g94, g96, g99]; try simp) ?_
          simp only [go_sem, seval, c89, a91, b92, c93, g94, g96, g99]
          refine hK _ ?_
          clear hK K
          refine Walk.condO rfl hx (fun c101 hx => ?_) (fun c101 hx => ?_)
          · refine Walk.seq (Walk.region' rfl fun K hK => ?_)
            simp only [go_sem, seval, c89, a91, b92, c93, g94, g96, g99, c101]
            refine hK _ ?_
            clear hK K
            obtain ⟨z102, e103, hx⟩ := exit_elim hx
            rw [hr86 z102 e103] at hx
            obtain rfl := Option.some.inj hx
            exact Walk.ret ⟨by simp [c89, a91, b92, c93, g94, g96, g99, c101], by simp [c89, a91, b92, c93, g94, g96, g99, c101]⟩
          · refine Walk.skip (Walk.inBlock (Walk.region' rfl fun K hK => ?_))
            simp only [go_sem, seval, c89, a91, b92, c93, g94, g96, g99, c101]
            refine hK _ ?_
            clear hK K
            exact Walk.weaken _ (by simp [c89, a91, b92, c93, g94, g96, g99, c101]) (by simp [c89, a91, b92, c93, g94, g96, g99, c101]) (ih85 _ (cont_elim hx))
        · simp only [go_sem, seval, c89, a91, b92, c93, g94, g96, g99]
          refine hK _ ?_
          clear hK K
          refine Walk.condF rfl (Walk.skip (Walk.inBlock (Walk.region' rfl fun K hK => ?_)))
          simp only [go_sem, seval, c89, a91, b92, c93, g94, g96, g99]
          refine hK _ ?_
          clear hK K
          exact Walk.weaken _ (by simp [c89, a91, b92, c93, g94, g96, g99]) (by simp [c89, a91, b92, c93, g94, g96, g99]) (ih85 _ (cont_elim hx))
    · simp only [go_sem, seval, c89, a91, b92, c93, g94]
      repeat refine And.intro (by first | omega | (simp; done) | (simp; omega)) ?_
      refine VGdO hx (fun g104 hx => ?_) (fun g104 hx => ?_)
      · obtain ⟨v29, h105, hx⟩ := bind_elim hx
        simp only [go_sem, seval, c89, a91, b92, c93, g94, g104]
        refine VCl.pure rfl (by simp only [go_sem, seval, c89, a91, b92, c93, g94, g104]; try simp) (ref06_Has_ok v2 v21 _ h105) (by simp only [go_sem, seval, c89, a91, b92, c93, g94, g104]; try simp) (by simp only [go_sem, seval, c89, a91, b92, c93, g94, g104]; try simp) (by simp only [go_sem, seval, c89, a91, b92, c93, g94, g104]; try simp) (by simp only [go_sem, seval, c89, a91, b92, c93, g94, g104]; try simp) (by simp only [go_sem, seval, c89, a91, b92, c93, g94, g104]; try simp) (by simp only [go_sem, seval, c89, a91, b92, c93, g94, g104]; try simp) ?_
        simp only [go_sem, seval, c89, a91, b92, c93, g94, g104]
        refine hK _ ?_
        clear hK K
        refine Walk.condO rfl hx (fun c106 hx => ?_) (fun c106 hx => ?_)
        · refine Walk.seq (Walk.region' rfl fun K hK => ?_)
          simp only [go_sem, seval, c89, a91, b92, c93, g94, g104, c106]
          refine hK _ ?_
          clear hK K
          obtain ⟨z107, e108, hx⟩ := exit_elim hx
          rw [hr86 z107 e108] at hx
          obtain rfl := Option.some.inj hx
          exact Walk.ret ⟨by simp [c89, a91, b92, c93, g94, g104, c106], by simp [c89, a91, b92, c93, g94, g104, c106]⟩
        · refine Walk.skip (Walk.inBlock (Walk.region' rfl fun K hK => ?_))
          simp only [go_sem, seval, c89, a91, b92, c93, g94, g104, c106]
          refine hK _ ?_
          clear hK K
          exact Walk.weaken _ (by simp [c89, a91, b92, c93, g94, g104, c106]) (by simp [c89, a91, b92, c93, g94, g104, c106]) (ih85 _ (cont_elim hx))
      · simp only [go_sem, seval, c89, a91, b92, c93, g94, g104]
        refine hK _ ?_
        clear hK K
        refine Walk.condF rfl (Walk.skip (Walk.inBlock (Walk.region' rfl fun K hK => ?_)))
        simp only [go_sem, seval, c89, a91, b92, c93, g94, g104]
        refine hK _ ?_
        clear hK K
        exact Walk.weaken _ (by simp [c89, a91, b92, c93, g94, g104]) (by simp [c89, a91, b92, c93, g94, g104]) (ih85 _ (cont_elim hx))
  · refine Walk.exit rfl ?_
    obtain ⟨z109, e110, hx⟩ := exit_elim hx
    rw [hr86 z109 e110] at hx
    refine Walk.seq (Walk.region' rfl fun K hK => ?_)
    simp only [go_sem, seval, c89]
    refine hK _ ?_
    clear hK K
    obtain rfl := Option.some.inj hx
    exact Walk.ret ⟨by simp [c89], by simp [c89]⟩
noncomputable def ref08_Sum_l0 (v2 : List Int) (v1 : List Int) (v14 : Int) (v15 : Int) : Option ((Int × Int) ⊕ (Int)) :=
  bif decide (v15 < (v2.length : Int)) then ((rd v2 v15).bind fun v18 => (rd v1 v18).bind fun v19 => contO ((IntKind.i64.wrap (v14 + v19), IntKind.i64.wrap (v15 + 1)) : Int × Int)) else (exitO (some (v14 : Int)))
noncomputable def ref08_Sum (v1 : List Int) (v2 : List Int) : Option (Int) :=
  iter (fun g : Int × Int => ref08_Sum_l0 v2 v1 g.1 g.2) (0, 0)
theorem ref08_Sum_ok (v1 : List Int) (v2 : List Int) (r : Int) (hx : ref08_Sum v1 v2 = some r) :
    ACalls Try.prog 25 [.d (.sl (List.map iD v1)), .d (.sl (List.map iD v2))] [] (.d (.int .i64 r)) [] := by
  refine ACalls.of_sem (n := 23) 0 [4] (fn := Try.f25) Try.func25 rfl rfl (.one rfl) rfl (by simp) (by intro i; simp only [hget]; (repeat' split) <;> simp <;> omega) ?_
  unfold ref08_Sum at hx
  refine Walk.seq (Walk.region' rfl fun K hK => ?_)
  simp only [go_sem, seval]
  refine hK _ ?_
  clear hK K
  refine Walk.seq (Walk.region' rfl fun K hK => ?_)
  simp only [go_sem, seval]
  refine hK _ ?_
  clear hK K
  refine Walk.seq (Walk.seq (Walk.region' rfl fun K hK => ?_))
  simp only [go_sem, seval]
  refine hK _ ?_
  clear hK K
  refine Walk.block (Walk.loop ?_)
  refine Walk.weaken ⟨[(0, .d (.sl (List.map iD v1))), (1, .d (.sl (List.map iD v2))), (5, .d (.int .i64 0)), (6, .d (.int .i64 0))], []⟩ (by simp) (by simp) ?_
  refine Walk.iter (σ := Int × Int) (fun g => ⟨[(0, .d (.sl (List.map iD v1))), (1, .d (.sl (List.map iD v2))), (5, .d (.int .i64 g.1)), (6, .d (.int .i64 g.2))], []⟩) (fun g : Int × Int => ref08_Sum_l0 v2 v1 g.1 g.2) _ (fun g y75 hx ih60 hr61 => ?_) (0, 0) hx
  obtain ⟨v14, v15⟩ := g
  unfold ref08_Sum_l0 at hx
  try dsimp only at hx ⊢
  refine Walk.seq (Walk.seq (Walk.region' rfl fun K hK => ?_))
  simp only [go_sem, seval]
  refine hK _ ?_
  clear hK K
  refine Walk.condO rfl hx (fun c64 hx => ?_) (fun c64 hx => ?_)
  · refine Walk.skip (Walk.seq (Walk.block (Walk.region' rfl fun K hK => ?_)))
    obtain ⟨v18, r65, a66, b67, c68, hx⟩ := rd_elim hx
    obtain ⟨v19, r69, a70, b71, c72, hx⟩ := rd_elim hx
    simp only [go_sem, seval, c64, a66, b67, c68, a70, b71, c72]
    repeat refine And.intro (by first | omega | (simp; done) | (simp; omega)) ?_
    refine hK _ ?_
    clear hK K
    refine Walk.inBlock (Walk.region' rfl fun K hK => ?_)
    simp only [go_sem, seval, c64, a66, b67, c68, a70, b71, c72]
    refine hK _ ?_
    clear hK K
    exact Walk.weaken _ (by simp [c64, a66, b67, c68, a70, b71, c72]) (by simp [c64, a66, b67, c68, a70, b71, c72]) (ih60 _ (cont_elim hx))
  · refine Walk.exit rfl ?_
    obtain ⟨z73, e74, hx⟩ := exit_elim hx
    rw [hr61 z73 e74] at hx
    refine Walk.seq (Walk.region' rfl fun K hK => ?_)
    simp only [go_sem, seval, c64]
    refine hK _ ?_
    clear hK K
    obtain rfl := Option.some.inj hx
    exact Walk.ret ⟨by simp [c64], by simp [c64]⟩
noncomputable def law08_BlueprintSound_l1 (v371 : Int × List Row × List Int) (v372 : Int × List Int) (v682 : Row) (v683 : Int × Int × Bool) (v643 : Int) (v711 : Int) (v712 : Int) (v713 : Int) : Option ((Int × Int × Int) ⊕ ((Int) ⊕ (Bool))) :=
  chk (0 ≤ (IntKind.u64.wrap ((v371.2.2.length : Int)))) (bif decide (v713 < (IntKind.i64.wrap (1 * 2 ^ (min (IntKind.u64.wrap ((v371.2.2.length : Int))).toNat 64)))) then ((ref08_Subset (v371.2.2.length : Int) v713).bind fun v717 => (law08_complete v372.2 v717).bind fun v718 => bif v718 then ((ref08_Sum v682.Coefs v717).bind fun v719 => contO (((min v711 v719), (max v712 v719), IntKind.i64.wrap (v713 + 1)) : Int × Int × Int)) else (contO ((v711, v712, IntKind.i64.wrap (v713 + 1)) : Int × Int × Int))) else (exitO (bif !v683.2.2 then (exitO (some (false : Bool))) else (bif decide (¬ v711 = v683.1) then (exitO (some (false : Bool))) else (bif decide (¬ v712 = v683.2.1) then (exitO (some (false : Bool))) else (contO (IntKind.i64.wrap (v643 + 1) : Int)))))))
noncomputable def law08_BlueprintSound_l2 (v371 : Int × List Row × List Int) (v372 : Int × List Int) (v373 : Int) (v374 : Bool) (v725 : Int) : Option ((Int) ⊕ (Bool)) :=
  chk (0 ≤ (IntKind.u64.wrap ((v371.2.2.length : Int)))) (bif decide (v725 < (IntKind.i64.wrap (1 * 2 ^ (min (IntKind.u64.wrap ((v371.2.2.length : Int))).toNat 64)))) then ((ref08_Subset (v371.2.2.length : Int) v725).bind fun v731 => (law08_complete v372.2 v731).bind fun v732 => bif v732 then (bif decide (v373 ≥ 0) then ((blueprint_Meets v371.2.2 v371.2.1 v731).bind fun v733 => bif v733 then (exitO (some (false : Bool))) else (bif !v374 then ((blueprint_Meets v371.2.2 v371.2.1 v731).bind fun v734 => bif !((decide (v373 < 0)) == v734) then (exitO (some (false : Bool))) else (contO (IntKind.i64.wrap (v725 + 1) : Int))) else (contO (IntKind.i64.wrap (v725 + 1) : Int)))) else (bif !v374 then ((blueprint_Meets v371.2.2 v371.2.1 v731).bind fun v735 => bif !((decide (v373 < 0)) == v735) then (exitO (some (false : Bool))) else (contO (IntKind.i64.wrap (v725 + 1) : Int))) else (contO (IntKind.i64.wrap (v725 + 1) : Int)))) else (contO (IntKind.i64.wrap (v725 + 1) : Int))) else (exitO ((law08_awake).bind fun v736 => some (v736 : Bool))))
noncomputable def law08_BlueprintSound_l0 (v371 : Int × List Row × List Int) (v372 : Int × List Int) (v373 : Int) (v374 : Bool) (v643 : Int) : Option ((Int) ⊕ (Bool)) :=
  bif decide (v643 < (v371.2.1.length : Int)) then ((rd v371.2.1 v643).bind fun v682 => (blueprint_Span v682.Coefs v682.Least v682.Most v372.2).bind fun v683 => iter (fun g : Int × Int × Int => law08_BlueprintSound_l1 v371 v372 v682 v683 v643 g.1 g.2.1 g.2.2) (1073741824, -1073741824, 0)) else (exitO (iter (fun g : Int => law08_BlueprintSound_l2 v371 v372 v373 v374 g) 0))
noncomputable def law08_BlueprintSound (v1 : List Int) : Option (Bool) :=
  (mk_New v1).bind fun v370 => (mk_Tape_Program v370 0 5 0).bind fun v371 => (mk_Tape_State v370 v371.1 (v371.2.2.length : Int)).bind fun v372 => (blueprint_Dead v371.2.2 v371.2.1 v372.2).bind fun v373 => (ref06_Has v372.2 (-1)).bind fun v374 => iter (fun g : Int => law08_BlueprintSound_l0 v371 v372 v373 v374 g) 0
theorem law08_BlueprintSound_ok (v1 : List Int) (r : Bool) (hx : law08_BlueprintSound v1 = some r) :
    ACalls Try.prog 5 [.d (.sl (List.map iD v1))] [] (.d (.bool r)) [] := by
  refine ACalls.of_sem (n := 127) 0 [2] (fn := Try.f5) Try.func5 rfl rfl (.one rfl) rfl (by simp) (by intro i; simp only [hget]; (repeat' split) <;> simp <;> omega) ?_
  unfold law08_BlueprintSound at hx
  refine Walk.seq (Walk.region' rfl fun K hK => ?_)
  simp only [go_sem, seval]
  refine hK _ ?_
  clear hK K
  refine Walk.seq (Walk.region' rfl fun K hK => ?_)
  obtain ⟨v370, h1097, hx⟩ := bind_elim hx
  have w1098 := ((mk_New_ok v1 _ h1097).swap 2000 1089)
  simp only [renE, renL, AV.ren, AV.rens, AObj.ren, swp, Option.map_some, reduceIte, Nat.reduceEqDiff] at w1098
  simp only [go_sem, seval]
  refine VCl.sub [] [] rfl (by simp only [go_sem, seval, AV.viewXs, AV.viewX, avD]; try simp) (w1098) (by simp) (by simp) (by simp) (by simp) (by simp) (by simp) (by simp) (by simp) (by simp) (by simp) ?_
  simp only [go_sem, seval]
  refine hK _ ?_
  clear hK K
  refine Walk.weaken ⟨[(3, .box 1089 0)], [(1089, some (.box [.d (.sl (List.map iD v370)), .d (.int .i64 0)]))]⟩ (by simp) (by simp) ?_
  refine Walk.seq (Walk.region' rfl fun K hK => ?_)
  obtain ⟨v371, h1099, hx⟩ := bind_elim hx
  have w1100 := ((((mk_Tape_Program_ok v370 0 5 0 _ h1099).swap 0 1089).swap 2001 1090).swap 2002 1091)
  simp only [renE, renL, AV.ren, AV.rens, AObj.ren, swp, Option.map_some, reduceIte, Nat.reduceEqDiff] at w1100
  simp only [go_sem, seval]
  refine VCl.sub [(1089, some (.box [.d (.sl (List.map iD v370)), .d (.int .i64 0)]))] [] rfl (by simp only [go_sem, seval, AV.viewXs, AV.viewX, avD]; try simp) (w1100) (by simp) (by simp) (by simp) (by simp) (by simp) (by simp) (by simp) (by simp) (by simp) (by simp) ?_
  simp only [go_sem, seval]
  refine hK _ ?_
  clear hK K
  refine Walk.weaken ⟨[(3, .box 1089 0), (4, .box 4 0)], [(4, some (.box [.arr 1090 0 v371.2.2.length, .arr 1091 0 v371.2.1.length])), (1089, some (.box [.d (.sl (List.map iD v370)), .d (.int .i64 v371.1)])), (1090, some (.arr 3 1 (List.map iD v371.2.2))), (1091, some (.arr 32 3 (List.map Row.D v371.2.1)))]⟩ (by simp) (by simp) ?_
  refine Walk.seq (Walk.region' rfl fun K hK => ?_)
  simp only [go_sem, seval]
  refine hK _ ?_
  clear hK K
  refine Walk.seq (Walk.region' rfl fun K hK => ?_)
  obtain ⟨v372, h1101, hx⟩ := bind_elim hx
  have w1102 := (((mk_Tape_State_ok v370 v371.1 (v371.2.2.length : Int) _ h1101).swap 0 1089).swap 2000 1092)
  simp only [renE, renL, AV.ren, AV.rens, AObj.ren, swp, Option.map_some, reduceIte, Nat.reduceEqDiff] at w1102
  simp only [go_sem, seval]
  refine VCl.sub [(1089, some (.box [.d (.sl (List.map iD v370)), .d (.int .i64 v371.1)]))] [] rfl (by simp only [go_sem, seval, AV.viewXs, AV.viewX, avD]; try simp) (w1102) (by simp) (by simp) (by simp) (by simp) (by simp) (by simp) (by simp) (by simp) (by simp) (by simp) ?_
  simp only [go_sem, seval]
  refine hK _ ?_
  clear hK K
  refine Walk.weaken ⟨[(4, .box 4 0), (5, .d (.int .i64 (v371.2.2.length : Int))), (6, .arr 1092 0 v372.2.length)], [(4, some (.box [.arr 1090 0 v371.2.2.length, .arr 1091 0 v371.2.1.length])), (1090, some (.arr 3 1 (List.map iD v371.2.2))), (1091, some (.arr 32 3 (List.map Row.D v371.2.1))), (1092, some (.arr 3 1 (List.map iD v372.2)))]⟩ (by simp) (by simp) ?_
  refine Walk.seq (Walk.region' rfl fun K hK => ?_)
  obtain ⟨v373, h1103, hx⟩ := bind_elim hx
  simp only [go_sem, seval]
  refine VCl.lent rfl (by simp only [go_sem, seval]; try simp) (blueprint_Dead_ok v371.2.2 v371.2.1 v372.2 _ h1103) (by simp) (by simp) (by simp) (by simp) (by simp) (by simp) (by simp) ?_
  simp only [go_sem, seval]
  refine hK _ ?_
  clear hK K
  refine Walk.seq (Walk.region' rfl fun K hK => ?_)
  obtain ⟨v374, h1104, hx⟩ := bind_elim hx
  simp only [go_sem, seval]
  refine VCl.lent rfl (by simp only [go_sem, seval]; try simp) (ref06_Has_ok v372.2 (-1) _ h1104) (by simp) (by simp) (by simp) (by simp) (by simp) (by simp) (by simp) ?_
  simp only [go_sem, seval]
  refine hK _ ?_
  clear hK K
  refine Walk.seq (Walk.seq (Walk.region' rfl fun K hK => ?_))
  simp only [go_sem, seval]
  refine hK _ ?_
  clear hK K
  refine Walk.block (Walk.loop ?_)
  refine Walk.weaken ⟨[(4, .box 4 0), (5, .d (.int .i64 (v371.2.2.length : Int))), (6, .arr 1092 0 v372.2.length), (7, .d (.int .i64 v373)), (8, .d (.bool v374)), (9, .d (.int .i64 0))], [(4, some (.box [.arr 1090 0 v371.2.2.length, .arr 1091 0 v371.2.1.length])), (1090, some (.arr 3 1 (List.map iD v371.2.2))), (1091, some (.arr 32 3 (List.map Row.D v371.2.1))), (1092, some (.arr 3 1 (List.map iD v372.2)))]⟩ (by simp) (by simp) ?_
  refine Walk.iter (σ := Int) (fun g => ⟨[(4, .box 4 0), (5, .d (.int .i64 (v371.2.2.length : Int))), (6, .arr 1092 0 v372.2.length), (7, .d (.int .i64 v373)), (8, .d (.bool v374)), (9, .d (.int .i64 g))], [(4, some (.box [.arr 1090 0 v371.2.2.length, .arr 1091 0 v371.2.1.length])), (1090, some (.arr 3 1 (List.map iD v371.2.2))), (1091, some (.arr 32 3 (List.map Row.D v371.2.1))), (1092, some (.arr 3 1 (List.map iD v372.2)))]⟩) (fun g : Int => law08_BlueprintSound_l0 v371 v372 v373 v374 g) _ (fun v643 y2207 hx ih2017 hr2018 => ?_) 0 hx
  unfold law08_BlueprintSound_l0 at hx
  try dsimp only at hx ⊢
  refine Walk.seq (Walk.seq (Walk.region' rfl fun K hK => ?_))
  simp only [go_sem, seval]
  refine hK _ ?_
  clear hK K
  refine Walk.condO rfl hx (fun c2021 hx => ?_) (fun c2021 hx => ?_)
  · refine Walk.skip (Walk.seq (Walk.block (Walk.seq (Walk.region' rfl fun K hK => ?_))))
    obtain ⟨v682, r2022, a2023, b2024, c2025, hx⟩ := rd_elim hx
    obtain ⟨v683, h2026, hx⟩ := bind_elim hx
    simp only [go_sem, seval, c2021, a2023, b2024, c2025]
    repeat refine And.intro (by first | omega | (simp; done) | (simp; omega)) ?_
    refine VCl.lent rfl (by simp only [go_sem, seval, c2021, a2023, b2024, c2025]; try simp) (blueprint_Span_ok v682.Coefs v682.Least v682.Most v372.2 _ h2026) (by simp [c2021, a2023, b2024, c2025]) (by simp [c2021, a2023, b2024, c2025]) (by simp [c2021, a2023, b2024, c2025]) (by simp [c2021, a2023, b2024, c2025]) (by simp [c2021, a2023, b2024, c2025]) (by simp [c2021, a2023, b2024, c2025]) (by simp [c2021, a2023, b2024, c2025]) ?_
    simp only [go_sem, seval, c2021, a2023, b2024, c2025]
    refine hK _ ?_
    clear hK K
    refine Walk.seq (Walk.region' rfl fun K hK => ?_)
    simp only [go_sem, seval, c2021, a2023, b2024, c2025]
    refine hK _ ?_
    clear hK K
    refine Walk.seq (Walk.seq (Walk.region' rfl fun K hK => ?_))
    simp only [go_sem, seval, c2021, a2023, b2024, c2025]
    refine hK _ ?_
    clear hK K
    refine Walk.block (Walk.loop ?_)
    refine Walk.weaken ⟨[(4, .box 4 0), (5, .d (.int .i64 (v371.2.2.length : Int))), (6, .arr 1092 0 v372.2.length), (7, .d (.int .i64 v373)), (8, .d (.bool v374)), (9, .d (.int .i64 v643)), (10, .d (.int .i64 v683.1)), (11, .d (.int .i64 v683.2.1)), (12, .d (.bool v683.2.2)), (13, .d (.int .i64 1073741824)), (14, .d (.int .i64 (-1073741824))), (15, .d (.int .i64 0))], [(4, some (.box [.arr 1090 0 v371.2.2.length, .arr 1091 0 v371.2.1.length])), (1090, some (.arr 3 1 (List.map iD v371.2.2))), (1091, some (.arr 32 3 (List.map Row.D v371.2.1))), (1092, some (.arr 3 1 (List.map iD v372.2)))]⟩ (by simp [c2021, a2023, b2024, c2025]) (by simp [c2021, a2023, b2024, c2025]) ?_
    refine Walk.iter (σ := Int × Int × Int) (fun g => ⟨[(4, .box 4 0), (5, .d (.int .i64 (v371.2.2.length : Int))), (6, .arr 1092 0 v372.2.length), (7, .d (.int .i64 v373)), (8, .d (.bool v374)), (9, .d (.int .i64 v643)), (10, .d (.int .i64 v683.1)), (11, .d (.int .i64 v683.2.1)), (12, .d (.bool v683.2.2)), (13, .d (.int .i64 g.1)), (14, .d (.int .i64 g.2.1)), (15, .d (.int .i64 g.2.2))], [(4, some (.box [.arr 1090 0 v371.2.2.length, .arr 1091 0 v371.2.1.length])), (1090, some (.arr 3 1 (List.map iD v371.2.2))), (1091, some (.arr 32 3 (List.map Row.D v371.2.1))), (1092, some (.arr 3 1 (List.map iD v372.2)))]⟩) (fun g : Int × Int × Int => law08_BlueprintSound_l1 v371 v372 v682 v683 v643 g.1 g.2.1 g.2.2) _ (fun g y2138 hx ih2115 hr2116 => ?_) (1073741824, -1073741824, 0) hx
    obtain ⟨v711, v712, v713⟩ := g
    unfold law08_BlueprintSound_l1 at hx
    try dsimp only at hx ⊢
    refine Walk.seq (Walk.seq (Walk.region' rfl fun K hK => ?_))
    obtain ⟨k2119, hx⟩ := chk_elim hx
    simp only [go_sem, seval, c2021, a2023, b2024, c2025, k2119]
    repeat refine And.intro (by first | omega | (simp; done) | (simp; omega)) ?_
    refine hK _ ?_
    clear hK K
    refine Walk.condO rfl hx (fun c2121 hx => ?_) (fun c2121 hx => ?_)
    · refine Walk.skip (Walk.seq (Walk.block (Walk.seq (Walk.region' rfl fun K hK => ?_))))
      obtain ⟨v717, h2122, hx⟩ := bind_elim hx
      have w2123 := ((ref08_Subset_ok (v371.2.2.length : Int) v713 _ h2122).swap 2000 1173)
      simp only [renE, renL, AV.ren, AV.rens, AObj.ren, swp, Option.map_some, reduceIte, Nat.reduceEqDiff] at w2123
      simp only [go_sem, seval, c2021, a2023, b2024, c2025, k2119, c2121]
      refine VCl.pure rfl (by simp only [go_sem, seval, c2021, a2023, b2024, c2025, k2119, c2121]; try simp) (w2123) (by simp only [go_sem, seval, c2021, a2023, b2024, c2025, k2119, c2121]; try simp) (by simp only [go_sem, seval, c2021, a2023, b2024, c2025, k2119, c2121]; try simp) (by simp only [go_sem, seval, c2021, a2023, b2024, c2025, k2119, c2121]; try simp) (by simp only [go_sem, seval, c2021, a2023, b2024, c2025, k2119, c2121]; try simp) (by simp only [go_sem, seval, c2021, a2023, b2024, c2025, k2119, c2121]; try simp) (by simp only [go_sem, seval, c2021, a2023, b2024, c2025, k2119, c2121]; try simp) ?_
      simp only [go_sem, seval, c2021, a2023, b2024, c2025, k2119, c2121]
      refine hK _ ?_
      clear hK K
      refine Walk.weaken ⟨[(4, .box 4 0), (5, .d (.int .i64 (v371.2.2.length : Int))), (6, .arr 1092 0 v372.2.length), (7, .d (.int .i64 v373)), (8, .d (.bool v374)), (9, .d (.int .i64 v643)), (10, .d (.int .i64 v683.1)), (11, .d (.int .i64 v683.2.1)), (12, .d (.bool v683.2.2)), (13, .d (.int .i64 v711)), (14, .d (.int .i64 v712)), (15, .d (.int .i64 v713)), (16, .arr 1173 0 v717.length)], [(4, some (.box [.arr 1090 0 v371.2.2.length, .arr 1091 0 v371.2.1.length])), (1090, some (.arr 3 1 (List.map iD v371.2.2))), (1091, some (.arr 32 3 (List.map Row.D v371.2.1))), (1092, some (.arr 3 1 (List.map iD v372.2))), (1173, some (.arr 3 1 (List.map iD v717)))]⟩ (by simp [c2021, a2023, b2024, c2025, k2119, c2121]) (by simp [c2021, a2023, b2024, c2025, k2119, c2121]) ?_
      refine Walk.seq (Walk.region' rfl fun K hK => ?_)
      obtain ⟨v718, h2124, hx⟩ := bind_elim hx
      simp only [go_sem, seval, c2021, a2023, b2024, c2025, k2119, c2121]
      refine VCl.lent rfl (by simp only [go_sem, seval, c2021, a2023, b2024, c2025, k2119, c2121]; try simp) (law08_complete_ok v372.2 v717 _ h2124) (by simp [c2021, a2023, b2024, c2025, k2119, c2121]) (by simp [c2021, a2023, b2024, c2025, k2119, c2121]) (by simp [c2021, a2023, b2024, c2025, k2119, c2121]) (by simp [c2021, a2023, b2024, c2025, k2119, c2121]) (by simp [c2021, a2023, b2024, c2025, k2119, c2121]) (by simp [c2021, a2023, b2024, c2025, k2119, c2121]) (by simp [c2021, a2023, b2024, c2025, k2119, c2121]) ?_
      simp only [go_sem, seval, c2021, a2023, b2024, c2025, k2119, c2121]
      refine hK _ ?_
      clear hK K
      refine Walk.condO rfl hx (fun c2125 hx => ?_) (fun c2125 hx => ?_)
      · refine Walk.seq (Walk.region' rfl fun K hK => ?_)
        obtain ⟨v719, h2126, hx⟩ := bind_elim hx
        simp only [go_sem, seval, c2021, a2023, b2024, c2025, k2119, c2121, c2125]
        repeat refine And.intro (by first | omega | (simp; done) | (simp; omega)) ?_
        refine VCl.lent rfl (by simp only [go_sem, seval, c2021, a2023, b2024, c2025, k2119, c2121, c2125]; try simp) (ref08_Sum_ok v682.Coefs v717 _ h2126) (by simp [c2021, a2023, b2024, c2025, k2119, c2121, c2125]) (by simp [c2021, a2023, b2024, c2025, k2119, c2121, c2125]) (by simp [c2021, a2023, b2024, c2025, k2119, c2121, c2125]) (by simp [c2021, a2023, b2024, c2025, k2119, c2121, c2125]) (by simp [c2021, a2023, b2024, c2025, k2119, c2121, c2125]) (by simp [c2021, a2023, b2024, c2025, k2119, c2121, c2125]) (by simp [c2021, a2023, b2024, c2025, k2119, c2121, c2125]) ?_
        simp only [go_sem, seval, c2021, a2023, b2024, c2025, k2119, c2121, c2125]
        refine hK _ ?_
        clear hK K
        refine Walk.region' rfl fun K hK => ?_
        simp only [go_sem, seval, c2021, a2023, b2024, c2025, k2119, c2121, c2125]
        refine hK _ ?_
        clear hK K
        refine Walk.inBlock (Walk.region' rfl fun K hK => ?_)
        simp only [go_sem, seval, c2021, a2023, b2024, c2025, k2119, c2121, c2125]
        refine hK _ ?_
        clear hK K
        exact Walk.weaken _ (by simp [c2021, a2023, b2024, c2025, k2119, c2121, c2125]) (by simp [c2021, a2023, b2024, c2025, k2119, c2121, c2125]) (ih2115 _ (cont_elim hx))
      · refine Walk.skip (Walk.inBlock (Walk.region' rfl fun K hK => ?_))
        simp only [go_sem, seval, c2021, a2023, b2024, c2025, k2119, c2121, c2125]
        refine hK _ ?_
        clear hK K
        exact Walk.weaken _ (by simp [c2021, a2023, b2024, c2025, k2119, c2121, c2125]) (by simp [c2021, a2023, b2024, c2025, k2119, c2121, c2125]) (ih2115 _ (cont_elim hx))
    · refine Walk.exit rfl ?_
      obtain ⟨z2127, e2128, hx⟩ := exit_elim hx
      rw [hr2116 z2127 e2128] at hx
      refine Walk.seq (Walk.region' rfl fun K hK => ?_)
      simp only [go_sem, seval, c2021, a2023, b2024, c2025, k2119, c2121]
      refine VGdO hx (fun g2129 hx => ?_) (fun g2129 hx => ?_)
      · simp only [go_sem, seval, c2021, a2023, b2024, c2025, k2119, c2121, g2129]
        refine hK _ ?_
        clear hK K
        refine Walk.condT rfl (Walk.seq (Walk.region' rfl fun K hK => ?_))
        simp only [go_sem, seval, c2021, a2023, b2024, c2025, k2119, c2121, g2129]
        refine hK _ ?_
        clear hK K
        obtain ⟨z2130, e2131, hx⟩ := exit_elim hx
        rw [hr2018 z2130 e2131] at hx
        obtain rfl := Option.some.inj hx
        exact Walk.ret ⟨by simp [c2021, a2023, b2024, c2025, k2119, c2121, g2129], by simp [c2021, a2023, b2024, c2025, k2119, c2121, g2129]⟩
      · simp only [go_sem, seval, c2021, a2023, b2024, c2025, k2119, c2121, g2129]
        refine VGdO hx (fun g2132 hx => ?_) (fun g2132 hx => ?_)
        · simp only [go_sem, seval, c2021, a2023, b2024, c2025, k2119, c2121, g2129, g2132]
          refine hK _ ?_
          clear hK K
          refine Walk.condT rfl (Walk.seq (Walk.region' rfl fun K hK => ?_))
          simp only [go_sem, seval, c2021, a2023, b2024, c2025, k2119, c2121, g2129, g2132]
          refine hK _ ?_
          clear hK K
          obtain ⟨z2133, e2134, hx⟩ := exit_elim hx
          rw [hr2018 z2133 e2134] at hx
          obtain rfl := Option.some.inj hx
          exact Walk.ret ⟨by simp [c2021, a2023, b2024, c2025, k2119, c2121, g2129, g2132], by simp [c2021, a2023, b2024, c2025, k2119, c2121, g2129, g2132]⟩
        · simp only [go_sem, seval, c2021, a2023, b2024, c2025, k2119, c2121, g2129, g2132]
          refine hK _ ?_
          clear hK K
          refine Walk.condO rfl hx (fun c2135 hx => ?_) (fun c2135 hx => ?_)
          · refine Walk.seq (Walk.region' rfl fun K hK => ?_)
            simp only [go_sem, seval, c2021, a2023, b2024, c2025, k2119, c2121, g2129, g2132, c2135]
            refine hK _ ?_
            clear hK K
            obtain ⟨z2136, e2137, hx⟩ := exit_elim hx
            rw [hr2018 z2136 e2137] at hx
            obtain rfl := Option.some.inj hx
            exact Walk.ret ⟨by simp [c2021, a2023, b2024, c2025, k2119, c2121, g2129, g2132, c2135], by simp [c2021, a2023, b2024, c2025, k2119, c2121, g2129, g2132, c2135]⟩
          · refine Walk.skip (Walk.inBlock (Walk.region' rfl fun K hK => ?_))
            simp only [go_sem, seval, c2021, a2023, b2024, c2025, k2119, c2121, g2129, g2132, c2135]
            refine hK _ ?_
            clear hK K
            exact Walk.weaken _ (by simp [c2021, a2023, b2024, c2025, k2119, c2121, g2129, g2132, c2135]) (by simp [c2021, a2023, b2024, c2025, k2119, c2121, g2129, g2132, c2135]) (ih2017 _ (cont_elim hx))
  · refine Walk.exit rfl ?_
    obtain ⟨z2139, e2140, hx⟩ := exit_elim hx
    rw [hr2018 z2139 e2140] at hx
    refine Walk.seq (Walk.seq (Walk.region' rfl fun K hK => ?_))
    simp only [go_sem, seval, c2021]
    refine hK _ ?_
    clear hK K
    refine Walk.block (Walk.loop ?_)
    refine Walk.weaken ⟨[(4, .box 4 0), (5, .d (.int .i64 (v371.2.2.length : Int))), (6, .arr 1092 0 v372.2.length), (7, .d (.int .i64 v373)), (8, .d (.bool v374)), (18, .d (.int .i64 0))], [(4, some (.box [.arr 1090 0 v371.2.2.length, .arr 1091 0 v371.2.1.length])), (1090, some (.arr 3 1 (List.map iD v371.2.2))), (1091, some (.arr 32 3 (List.map Row.D v371.2.1))), (1092, some (.arr 3 1 (List.map iD v372.2)))]⟩ (by simp [c2021]) (by simp [c2021]) ?_
    refine Walk.iter (σ := Int) (fun g => ⟨[(4, .box 4 0), (5, .d (.int .i64 (v371.2.2.length : Int))), (6, .arr 1092 0 v372.2.length), (7, .d (.int .i64 v373)), (8, .d (.bool v374)), (18, .d (.int .i64 g))], [(4, some (.box [.arr 1090 0 v371.2.2.length, .arr 1091 0 v371.2.1.length])), (1090, some (.arr 3 1 (List.map iD v371.2.2))), (1091, some (.arr 32 3 (List.map Row.D v371.2.1))), (1092, some (.arr 3 1 (List.map iD v372.2)))]⟩) (fun g : Int => law08_BlueprintSound_l2 v371 v372 v373 v374 g) _ (fun v725 y2206 hx ih2177 hr2178 => ?_) 0 hx
    unfold law08_BlueprintSound_l2 at hx
    try dsimp only at hx ⊢
    refine Walk.seq (Walk.seq (Walk.region' rfl fun K hK => ?_))
    obtain ⟨k2181, hx⟩ := chk_elim hx
    simp only [go_sem, seval, c2021, k2181]
    repeat refine And.intro (by first | omega | (simp; done) | (simp; omega)) ?_
    refine hK _ ?_
    clear hK K
    refine Walk.condO rfl hx (fun c2183 hx => ?_) (fun c2183 hx => ?_)
    · refine Walk.skip (Walk.seq (Walk.block (Walk.seq (Walk.region' rfl fun K hK => ?_))))
      obtain ⟨v731, h2184, hx⟩ := bind_elim hx
      have w2185 := ((ref08_Subset_ok (v371.2.2.length : Int) v725 _ h2184).swap 2000 1176)
      simp only [renE, renL, AV.ren, AV.rens, AObj.ren, swp, Option.map_some, reduceIte, Nat.reduceEqDiff] at w2185
      simp only [go_sem, seval, c2021, k2181, c2183]
      refine VCl.pure rfl (by simp only [go_sem, seval, c2021, k2181, c2183]; try simp) (w2185) (by simp only [go_sem, seval, c2021, k2181, c2183]; try simp) (by simp only [go_sem, seval, c2021, k2181, c2183]; try simp) (by simp only [go_sem, seval, c2021, k2181, c2183]; try simp) (by simp only [go_sem, seval, c2021, k2181, c2183]; try simp) (by simp only [go_sem, seval, c2021, k2181, c2183]; try simp) (by simp only [go_sem, seval, c2021, k2181, c2183]; try simp) ?_
      simp only [go_sem, seval, c2021, k2181, c2183]
      refine hK _ ?_
      clear hK K
      refine Walk.weaken ⟨[(4, .box 4 0), (5, .d (.int .i64 (v371.2.2.length : Int))), (6, .arr 1092 0 v372.2.length), (7, .d (.int .i64 v373)), (8, .d (.bool v374)), (18, .d (.int .i64 v725)), (19, .arr 1176 0 v731.length)], [(4, some (.box [.arr 1090 0 v371.2.2.length, .arr 1091 0 v371.2.1.length])), (1090, some (.arr 3 1 (List.map iD v371.2.2))), (1091, some (.arr 32 3 (List.map Row.D v371.2.1))), (1092, some (.arr 3 1 (List.map iD v372.2))), (1176, some (.arr 3 1 (List.map iD v731)))]⟩ (by simp [c2021, k2181, c2183]) (by simp [c2021, k2181, c2183]) ?_
      refine Walk.seq (Walk.region' rfl fun K hK => ?_)
      obtain ⟨v732, h2186, hx⟩ := bind_elim hx
      simp only [go_sem, seval, c2021, k2181, c2183]
      refine VCl.lent rfl (by simp only [go_sem, seval, c2021, k2181, c2183]; try simp) (law08_complete_ok v372.2 v731 _ h2186) (by simp [c2021, k2181, c2183]) (by simp [c2021, k2181, c2183]) (by simp [c2021, k2181, c2183]) (by simp [c2021, k2181, c2183]) (by simp [c2021, k2181, c2183]) (by simp [c2021, k2181, c2183]) (by simp [c2021, k2181, c2183]) ?_
      simp only [go_sem, seval, c2021, k2181, c2183]
      refine VGdO hx (fun g2187 hx => ?_) (fun g2187 hx => ?_)
      · simp only [go_sem, seval, c2021, k2181, c2183, g2187]
        refine VGdO hx (fun g2188 hx => ?_) (fun g2188 hx => ?_)
        · obtain ⟨v733, h2189, hx⟩ := bind_elim hx
          simp only [go_sem, seval, c2021, k2181, c2183, g2187, g2188]
          refine VCl.lent rfl (by simp only [go_sem, seval, c2021, k2181, c2183, g2187, g2188]; try simp) (blueprint_Meets_ok v371.2.2 v371.2.1 v731 _ h2189) (by simp [c2021, k2181, c2183, g2187, g2188]) (by simp [c2021, k2181, c2183, g2187, g2188]) (by simp [c2021, k2181, c2183, g2187, g2188]) (by simp [c2021, k2181, c2183, g2187, g2188]) (by simp [c2021, k2181, c2183, g2187, g2188]) (by simp [c2021, k2181, c2183, g2187, g2188]) (by simp [c2021, k2181, c2183, g2187, g2188]) ?_
          simp only [go_sem, seval, c2021, k2181, c2183, g2187, g2188]
          refine VGdO hx (fun g2190 hx => ?_) (fun g2190 hx => ?_)
          · simp only [go_sem, seval, c2021, k2181, c2183, g2187, g2188, g2190]
            refine hK _ ?_
            clear hK K
            refine Walk.condT rfl (Walk.seq (Walk.region' rfl fun K hK => ?_))
            simp only [go_sem, seval, c2021, k2181, c2183, g2187, g2188, g2190]
            refine hK _ ?_
            clear hK K
            obtain ⟨z2191, e2192, hx⟩ := exit_elim hx
            rw [hr2178 z2191 e2192] at hx
            obtain rfl := Option.some.inj hx
            exact Walk.ret ⟨by simp [c2021, k2181, c2183, g2187, g2188, g2190], by simp [c2021, k2181, c2183, g2187, g2188, g2190]⟩
          · simp only [go_sem, seval, c2021, k2181, c2183, g2187, g2188, g2190]
            refine VGdO hx (fun g2193 hx => ?_) (fun g2193 hx => ?_)
            · obtain ⟨v734, h2194, hx⟩ := bind_elim hx
              simp only [go_sem, seval, c2021, k2181, c2183, g2187, g2188, g2190, g2193]
              refine VCl.lent rfl (by simp only [go_sem, seval, c2021, k2181, c2183, g2187, g2188, g2190, g2193]; try simp) (blueprint_Meets_ok v371.2.2 v371.2.1 v731 _ h2194) (by simp [c2021, k2181, c2183, g2187, g2188, g2190, g2193]) (by simp [c2021, k2181, c2183, g2187, g2188, g2190, g2193]) (by simp [c2021, k2181, c2183, g2187, g2188, g2190, g2193]) (by simp [c2021, k2181, c2183, g2187, g2188, g2190, g2193]) (by simp [c2021, k2181, c2183, g2187, g2188, g2190, g2193]) (by simp [c2021, k2181, c2183, g2187, g2188, g2190, g2193]) (by simp [c2021, k2181, c2183, g2187, g2188, g2190, g2193]) ?_
              simp only [go_sem, seval, c2021, k2181, c2183, g2187, g2188, g2190, g2193]
              refine hK _ ?_
              clear hK K
              refine Walk.condO rfl hx (fun c2195 hx => ?_) (fun c2195 hx => ?_)
              · refine Walk.seq (Walk.region' rfl fun K hK => ?_)
                simp only [go_sem, seval, c2021, k2181, c2183, g2187, g2188, g2190, g2193, c2195]
                refine hK _ ?_
                clear hK K
                obtain ⟨z2196, e2197, hx⟩ := exit_elim hx
                rw [hr2178 z2196 e2197] at hx
                obtain rfl := Option.some.inj hx
                exact Walk.ret ⟨by simp [c2021, k2181, c2183, g2187, g2188, g2190, g2193, c2195], by simp [c2021, k2181, c2183, g2187, g2188, g2190, g2193, c2195]⟩
              · refine Walk.skip (Walk.inBlock (Walk.region' rfl fun K hK => ?_))
                simp only [go_sem, seval, c2021, k2181, c2183, g2187, g2188, g2190, g2193, c2195]
                refine hK _ ?_
                clear hK K
                exact Walk.weaken _ (by simp [c2021, k2181, c2183, g2187, g2188, g2190, g2193, c2195]) (by simp [c2021, k2181, c2183, g2187, g2188, g2190, g2193, c2195]) (ih2177 _ (cont_elim hx))
            · simp only [go_sem, seval, c2021, k2181, c2183, g2187, g2188, g2190, g2193]
              refine hK _ ?_
              clear hK K
              refine Walk.condF rfl (Walk.skip (Walk.inBlock (Walk.region' rfl fun K hK => ?_)))
              simp only [go_sem, seval, c2021, k2181, c2183, g2187, g2188, g2190, g2193]
              refine hK _ ?_
              clear hK K
              exact Walk.weaken _ (by simp [c2021, k2181, c2183, g2187, g2188, g2190, g2193]) (by simp [c2021, k2181, c2183, g2187, g2188, g2190, g2193]) (ih2177 _ (cont_elim hx))
        · simp only [go_sem, seval, c2021, k2181, c2183, g2187, g2188]
          refine VGdO hx (fun g2198 hx => ?_) (fun g2198 hx => ?_)
          · obtain ⟨v735, h2199, hx⟩ := bind_elim hx
            simp only [go_sem, seval, c2021, k2181, c2183, g2187, g2188, g2198]
            refine VCl.lent rfl (by simp only [go_sem, seval, c2021, k2181, c2183, g2187, g2188, g2198]; try simp) (blueprint_Meets_ok v371.2.2 v371.2.1 v731 _ h2199) (by simp [c2021, k2181, c2183, g2187, g2188, g2198]) (by simp [c2021, k2181, c2183, g2187, g2188, g2198]) (by simp [c2021, k2181, c2183, g2187, g2188, g2198]) (by simp [c2021, k2181, c2183, g2187, g2188, g2198]) (by simp [c2021, k2181, c2183, g2187, g2188, g2198]) (by simp [c2021, k2181, c2183, g2187, g2188, g2198]) (by simp [c2021, k2181, c2183, g2187, g2188, g2198]) ?_
            simp only [go_sem, seval, c2021, k2181, c2183, g2187, g2188, g2198]
            refine hK _ ?_
            clear hK K
            refine Walk.condO rfl hx (fun c2200 hx => ?_) (fun c2200 hx => ?_)
            · refine Walk.seq (Walk.region' rfl fun K hK => ?_)
              simp only [go_sem, seval, c2021, k2181, c2183, g2187, g2188, g2198, c2200]
              refine hK _ ?_
              clear hK K
              obtain ⟨z2201, e2202, hx⟩ := exit_elim hx
              rw [hr2178 z2201 e2202] at hx
              obtain rfl := Option.some.inj hx
              exact Walk.ret ⟨by simp [c2021, k2181, c2183, g2187, g2188, g2198, c2200], by simp [c2021, k2181, c2183, g2187, g2188, g2198, c2200]⟩
            · refine Walk.skip (Walk.inBlock (Walk.region' rfl fun K hK => ?_))
              simp only [go_sem, seval, c2021, k2181, c2183, g2187, g2188, g2198, c2200]
              refine hK _ ?_
              clear hK K
              exact Walk.weaken _ (by simp [c2021, k2181, c2183, g2187, g2188, g2198, c2200]) (by simp [c2021, k2181, c2183, g2187, g2188, g2198, c2200]) (ih2177 _ (cont_elim hx))
          · simp only [go_sem, seval, c2021, k2181, c2183, g2187, g2188, g2198]
            refine hK _ ?_
            clear hK K
            refine Walk.condF rfl (Walk.skip (Walk.inBlock (Walk.region' rfl fun K hK => ?_)))
            simp only [go_sem, seval, c2021, k2181, c2183, g2187, g2188, g2198]
            refine hK _ ?_
            clear hK K
            exact Walk.weaken _ (by simp [c2021, k2181, c2183, g2187, g2188, g2198]) (by simp [c2021, k2181, c2183, g2187, g2188, g2198]) (ih2177 _ (cont_elim hx))
      · simp only [go_sem, seval, c2021, k2181, c2183, g2187]
        refine hK _ ?_
        clear hK K
        refine Walk.condF rfl (Walk.skip (Walk.inBlock (Walk.region' rfl fun K hK => ?_)))
        simp only [go_sem, seval, c2021, k2181, c2183, g2187]
        refine hK _ ?_
        clear hK K
        exact Walk.weaken _ (by simp [c2021, k2181, c2183, g2187]) (by simp [c2021, k2181, c2183, g2187]) (ih2177 _ (cont_elim hx))
    · refine Walk.exit rfl ?_
      obtain ⟨z2203, e2204, hx⟩ := exit_elim hx
      rw [hr2178 z2203 e2204] at hx
      refine Walk.seq (Walk.region' rfl fun K hK => ?_)
      obtain ⟨v736, h2205, hx⟩ := bind_elim hx
      simp only [go_sem, seval, c2021, k2181, c2183]
      refine VCl.pure rfl (by simp only [go_sem, seval, c2021, k2181, c2183]; try simp) (law08_awake_ok _ h2205) (by simp only [go_sem, seval, c2021, k2181, c2183]; try simp) (by simp only [go_sem, seval, c2021, k2181, c2183]; try simp) (by simp only [go_sem, seval, c2021, k2181, c2183]; try simp) (by simp only [go_sem, seval, c2021, k2181, c2183]; try simp) (by simp only [go_sem, seval, c2021, k2181, c2183]; try simp) (by simp only [go_sem, seval, c2021, k2181, c2183]; try simp) ?_
      simp only [go_sem, seval, c2021, k2181, c2183]
      refine hK _ ?_
      clear hK K
      obtain rfl := Option.some.inj hx
      exact Walk.ret ⟨by simp [c2021, k2181, c2183], by simp [c2021, k2181, c2183]⟩
noncomputable def law08_BlueprintStays_j0 (v19 : Int × List Row × List Int) (v20 : Int × List Int) (v26 : List Int) : Option (Bool) :=
  (blueprint_Dead v19.2.2 v19.2.1 v20.2).bind fun v27 => bif decide (v27 = (-1)) then ((law08_awake).bind fun v28 => some (v28 : Bool)) else ((blueprint_Dead v19.2.2 v19.2.1 v26).bind fun v29 => bif decide (v29 ≥ 0) then ((law08_awake).bind fun v30 => some (v30 : Bool)) else (some (false : Bool)))
noncomputable def law08_BlueprintStays (v1 : List Int) (v2 : Int) (v3 : Int) : Option (Bool) :=
  (mk_New v1).bind fun v18 => (mk_Tape_Program v18 0 6 0).bind fun v19 => (mk_Tape_State v18 v19.1 (v19.2.2.length : Int)).bind fun v20 => chk (v20.2.length * 8 ≤ 140737488355328) (bif decide ((v20.2.length : Int) > 0) then ((mk_Cut v2 (v20.2.length : Int)).bind fun v31 => (rd v20.2 v31).bind fun v32 => bif decide (v32 = (-1)) then ((mk_Cut v2 (v20.2.length : Int)).bind fun v33 => (mk_Cut v3 2).bind fun v34 => (rd v20.2 v33).bind fun v35 => law08_BlueprintStays_j0 v19 v20 (v20.2.set (v33).toNat v34)) else (law08_BlueprintStays_j0 v19 v20 v20.2)) else (law08_BlueprintStays_j0 v19 v20 v20.2))
theorem law08_BlueprintStays_ok (v1 : List Int) (v2 : Int) (v3 : Int) (r : Bool) (hx : law08_BlueprintStays v1 v2 v3 = some r) :
    ACalls Try.prog 6 [.d (.sl (List.map iD v1)), .d (.int .i64 v2), .d (.int .i64 v3)] [] (.d (.bool r)) [] := by
  refine ACalls.of_sem (n := 57) 0 [6] (fn := Try.f6) Try.func6 rfl rfl (.one rfl) rfl (by simp) (by intro i; simp only [hget]; (repeat' split) <;> simp <;> omega) ?_
  unfold law08_BlueprintStays at hx
  refine Walk.seq (Walk.region' rfl fun K hK => ?_)
  simp only [go_sem, seval]
  refine hK _ ?_
  clear hK K
  refine Walk.seq (Walk.region' rfl fun K hK => ?_)
  obtain ⟨v18, h27, hx⟩ := bind_elim hx
  have w28 := ((mk_New_ok v1 _ h27).swap 2000 1005)
  simp only [renE, renL, AV.ren, AV.rens, AObj.ren, swp, Option.map_some, reduceIte, Nat.reduceEqDiff] at w28
  simp only [go_sem, seval]
  refine VCl.sub [] [] rfl (by simp only [go_sem, seval, AV.viewXs, AV.viewX, avD]; try simp) (w28) (by simp) (by simp) (by simp) (by simp) (by simp) (by simp) (by simp) (by simp) (by simp) (by simp) ?_
  simp only [go_sem, seval]
  refine hK _ ?_
  clear hK K
  refine Walk.weaken ⟨[(1, .d (.int .i64 v2)), (2, .d (.int .i64 v3)), (7, .box 1005 0)], [(1005, some (.box [.d (.sl (List.map iD v18)), .d (.int .i64 0)]))]⟩ (by simp) (by simp) ?_
  refine Walk.seq (Walk.region' rfl fun K hK => ?_)
  obtain ⟨v19, h29, hx⟩ := bind_elim hx
  have w30 := ((((mk_Tape_Program_ok v18 0 6 0 _ h29).swap 0 1005).swap 2001 1006).swap 2002 1007)
  simp only [renE, renL, AV.ren, AV.rens, AObj.ren, swp, Option.map_some, reduceIte, Nat.reduceEqDiff] at w30
  simp only [go_sem, seval]
  refine VCl.sub [(1005, some (.box [.d (.sl (List.map iD v18)), .d (.int .i64 0)]))] [] rfl (by simp only [go_sem, seval, AV.viewXs, AV.viewX, avD]; try simp) (w30) (by simp) (by simp) (by simp) (by simp) (by simp) (by simp) (by simp) (by simp) (by simp) (by simp) ?_
  simp only [go_sem, seval]
  refine hK _ ?_
  clear hK K
  refine Walk.weaken ⟨[(1, .d (.int .i64 v2)), (2, .d (.int .i64 v3)), (7, .box 1005 0), (8, .box 8 0)], [(8, some (.box [.arr 1006 0 v19.2.2.length, .arr 1007 0 v19.2.1.length])), (1005, some (.box [.d (.sl (List.map iD v18)), .d (.int .i64 v19.1)])), (1006, some (.arr 3 1 (List.map iD v19.2.2))), (1007, some (.arr 32 3 (List.map Row.D v19.2.1)))]⟩ (by simp) (by simp) ?_
  refine Walk.seq (Walk.region' rfl fun K hK => ?_)
  obtain ⟨v20, h31, hx⟩ := bind_elim hx
  have w32 := (((mk_Tape_State_ok v18 v19.1 (v19.2.2.length : Int) _ h31).swap 0 1005).swap 2000 1008)
  simp only [renE, renL, AV.ren, AV.rens, AObj.ren, swp, Option.map_some, reduceIte, Nat.reduceEqDiff] at w32
  simp only [go_sem, seval]
  refine VCl.sub [(1005, some (.box [.d (.sl (List.map iD v18)), .d (.int .i64 v19.1)]))] [] rfl (by simp only [go_sem, seval, AV.viewXs, AV.viewX, avD]; try simp) (w32) (by simp) (by simp) (by simp) (by simp) (by simp) (by simp) (by simp) (by simp) (by simp) (by simp) ?_
  simp only [go_sem, seval]
  refine hK _ ?_
  clear hK K
  refine Walk.weaken ⟨[(1, .d (.int .i64 v2)), (2, .d (.int .i64 v3)), (8, .box 8 0), (9, .arr 1008 0 v20.2.length)], [(8, some (.box [.arr 1006 0 v19.2.2.length, .arr 1007 0 v19.2.1.length])), (1006, some (.arr 3 1 (List.map iD v19.2.2))), (1007, some (.arr 32 3 (List.map Row.D v19.2.1))), (1008, some (.arr 3 1 (List.map iD v20.2)))]⟩ (by simp) (by simp) ?_
  refine Walk.seq (Walk.region' rfl fun K hK => ?_)
  simp only [go_sem, seval]
  refine hK _ ?_
  clear hK K
  refine Walk.seq (Walk.region' rfl fun K hK => ?_)
  obtain ⟨k33, hx⟩ := chk_elim hx
  simp only [go_sem, seval, k33]
  repeat refine And.intro (by first | omega | (simp; done) | (simp; omega)) ?_
  refine hK _ ?_
  clear hK K
  refine Walk.weaken ⟨[(1, .d (.int .i64 v2)), (2, .d (.int .i64 v3)), (8, .box 8 0), (9, .arr 1008 0 v20.2.length), (10, .arr 22 0 v20.2.length)], [(8, some (.box [.arr 1006 0 v19.2.2.length, .arr 1007 0 v19.2.1.length])), (22, some (.arr 3 1 (List.map iD v20.2))), (1006, some (.arr 3 1 (List.map iD v19.2.2))), (1007, some (.arr 32 3 (List.map Row.D v19.2.1))), (1008, some (.arr 3 1 (List.map iD v20.2)))]⟩ (by simp [k33]) (by simp [k33]) ?_
  refine Walk.seq (Walk.join (G := List Int) (fun g => ⟨[(8, .box 8 0), (9, .arr 1008 0 v20.2.length), (10, .arr 22 0 g.length)], [(8, some (.box [.arr 1006 0 v19.2.2.length, .arr 1007 0 v19.2.1.length])), (22, some (.arr 3 1 (List.map iD g))), (1006, some (.arr 3 1 (List.map iD v19.2.2))), (1007, some (.arr 32 3 (List.map Row.D v19.2.1))), (1008, some (.arr 3 1 (List.map iD v20.2)))]⟩) (fun g => law08_BlueprintStays_j0 v19 v20 g) hx (fun v26 hx => ?_) (fun fin47 => ?_))
  · unfold law08_BlueprintStays_j0 at hx
    try dsimp only at hx ⊢
    refine Walk.seq (Walk.region' rfl fun K hK => ?_)
    obtain ⟨v27, h48, hx⟩ := bind_elim hx
    simp only [go_sem, seval, k33]
    refine VCl.lent rfl (by simp only [go_sem, seval, k33]; try simp) (blueprint_Dead_ok v19.2.2 v19.2.1 v20.2 _ h48) (by simp [k33]) (by simp [k33]) (by simp [k33]) (by simp [k33]) (by simp [k33]) (by simp [k33]) (by simp [k33]) ?_
    simp only [go_sem, seval, k33]
    refine VGdO hx (fun g49 hx => ?_) (fun g49 hx => ?_)
    · obtain ⟨v28, h50, hx⟩ := bind_elim hx
      simp only [go_sem, seval, k33, g49]
      refine VCl.pure rfl (by simp only [go_sem, seval, k33, g49]; try simp) (law08_awake_ok _ h50) (by simp only [go_sem, seval, k33, g49]; try simp) (by simp only [go_sem, seval, k33, g49]; try simp) (by simp only [go_sem, seval, k33, g49]; try simp) (by simp only [go_sem, seval, k33, g49]; try simp) (by simp only [go_sem, seval, k33, g49]; try simp) (by simp only [go_sem, seval, k33, g49]; try simp) ?_
      simp only [go_sem, seval, k33, g49]
      refine hK _ ?_
      clear hK K
      obtain rfl := Option.some.inj hx
      exact Walk.ret ⟨by simp [k33, g49], by simp [k33, g49]⟩
    · obtain ⟨v29, h51, hx⟩ := bind_elim hx
      simp only [go_sem, seval, k33, g49]
      refine VCl.lent rfl (by simp only [go_sem, seval, k33, g49]; try simp) (blueprint_Dead_ok v19.2.2 v19.2.1 v26 _ h51) (by simp [k33, g49]) (by simp [k33, g49]) (by simp [k33, g49]) (by simp [k33, g49]) (by simp [k33, g49]) (by simp [k33, g49]) (by simp [k33, g49]) ?_
      simp only [go_sem, seval, k33, g49]
      refine VGdO hx (fun g52 hx => ?_) (fun g52 hx => ?_)
      · obtain ⟨v30, h53, hx⟩ := bind_elim hx
        simp only [go_sem, seval, k33, g49, g52]
        refine VCl.pure rfl (by simp only [go_sem, seval, k33, g49, g52]; try simp) (law08_awake_ok _ h53) (by simp only [go_sem, seval, k33, g49, g52]; try simp) (by simp only [go_sem, seval, k33, g49, g52]; try simp) (by simp only [go_sem, seval, k33, g49, g52]; try simp) (by simp only [go_sem, seval, k33, g49, g52]; try simp) (by simp only [go_sem, seval, k33, g49, g52]; try simp) (by simp only [go_sem, seval, k33, g49, g52]; try simp) ?_
        simp only [go_sem, seval, k33, g49, g52]
        refine hK _ ?_
        clear hK K
        obtain rfl := Option.some.inj hx
        exact Walk.ret ⟨by simp [k33, g49, g52], by simp [k33, g49, g52]⟩
      · simp only [go_sem, seval, k33, g49, g52]
        refine hK _ ?_
        clear hK K
        obtain rfl := Option.some.inj hx
        exact Walk.ret ⟨by simp [k33, g49, g52], by simp [k33, g49, g52]⟩
  · refine Walk.seq (Walk.region' rfl fun K hK => ?_)
    simp only [go_sem, seval, k33]
    refine VGdO hx (fun g54 hx => ?_) (fun g54 hx => ?_)
    · obtain ⟨v31, h55, hx⟩ := bind_elim hx
      simp only [go_sem, seval, k33, g54]
      refine VCl.pure rfl (by simp only [go_sem, seval, k33, g54]; try simp) (mk_Cut_ok v2 (v20.2.length : Int) _ h55) (by simp only [go_sem, seval, k33, g54]; try simp) (by simp only [go_sem, seval, k33, g54]; try simp) (by simp only [go_sem, seval, k33, g54]; try simp) (by simp only [go_sem, seval, k33, g54]; try simp) (by simp only [go_sem, seval, k33, g54]; try simp) (by simp only [go_sem, seval, k33, g54]; try simp) ?_
      obtain ⟨v32, r56, a57, b58, c59, hx⟩ := rd_elim hx
      simp only [go_sem, seval, k33, g54, a57, b58, c59]
      repeat refine And.intro (by first | omega | (simp; done) | (simp; omega)) ?_
      refine hK _ ?_
      clear hK K
      refine Walk.condO rfl hx (fun c60 hx => ?_) (fun c60 hx => ?_)
      · refine Walk.region' rfl fun K hK => ?_
        obtain ⟨v33, h61, hx⟩ := bind_elim hx
        simp only [go_sem, seval, k33, g54, a57, b58, c59, c60]
        refine VCl.pure rfl (by simp only [go_sem, seval, k33, g54, a57, b58, c59, c60]; try simp) (mk_Cut_ok v2 (v20.2.length : Int) _ h61) (by simp only [go_sem, seval, k33, g54, a57, b58, c59, c60]; try simp) (by simp only [go_sem, seval, k33, g54, a57, b58, c59, c60]; try simp) (by simp only [go_sem, seval, k33, g54, a57, b58, c59, c60]; try simp) (by simp only [go_sem, seval, k33, g54, a57, b58, c59, c60]; try simp) (by simp only [go_sem, seval, k33, g54, a57, b58, c59, c60]; try simp) (by simp only [go_sem, seval, k33, g54, a57, b58, c59, c60]; try simp) ?_
        obtain ⟨v34, h62, hx⟩ := bind_elim hx
        simp only [go_sem, seval, k33, g54, a57, b58, c59, c60]
        refine VCl.pure rfl (by simp only [go_sem, seval, k33, g54, a57, b58, c59, c60]; try simp) (mk_Cut_ok v3 2 _ h62) (by simp only [go_sem, seval, k33, g54, a57, b58, c59, c60]; try simp) (by simp only [go_sem, seval, k33, g54, a57, b58, c59, c60]; try simp) (by simp only [go_sem, seval, k33, g54, a57, b58, c59, c60]; try simp) (by simp only [go_sem, seval, k33, g54, a57, b58, c59, c60]; try simp) (by simp only [go_sem, seval, k33, g54, a57, b58, c59, c60]; try simp) (by simp only [go_sem, seval, k33, g54, a57, b58, c59, c60]; try simp) ?_
        obtain ⟨v35, r63, a64, b65, c66, hx⟩ := rd_elim hx
        simp only [go_sem, seval, k33, g54, a57, b58, c59, c60, a64, b65, c66]
        repeat refine And.intro (by first | omega | (simp; done) | (simp; omega)) ?_
        refine hK _ ?_
        clear hK K
        refine Walk.weaken ⟨[(8, .box 8 0), (9, .arr 1008 0 v20.2.length), (10, .arr 22 0 (((v20.2.set (v33).toNat v34)).length))], [(8, some (.box [.arr 1006 0 v19.2.2.length, .arr 1007 0 v19.2.1.length])), (22, some (.arr 3 1 (List.map iD ((v20.2.set (v33).toNat v34))))), (1006, some (.arr 3 1 (List.map iD v19.2.2))), (1007, some (.arr 32 3 (List.map Row.D v19.2.1))), (1008, some (.arr 3 1 (List.map iD v20.2)))]⟩ (by simp [k33, g54, a57, b58, c59, c60, a64, b65, c66]) (by simp [k33, g54, a57, b58, c59, c60, a64, b65, c66]) ?_
        exact Walk.weaken _ (by simp [k33, g54, a57, b58, c59, c60, a64, b65, c66]) (by simp [k33, g54, a57, b58, c59, c60, a64, b65, c66]) (fin47 (v20.2.set (v33).toNat v34) hx)
      · refine Walk.skip ?_
        exact Walk.weaken _ (by simp [k33, g54, a57, b58, c59, c60]) (by simp [k33, g54, a57, b58, c59, c60]) (fin47 v20.2 hx)
    · simp only [go_sem, seval, k33, g54]
      refine hK _ ?_
      clear hK K
      refine Walk.condF rfl (Walk.skip ?_)
      exact Walk.weaken _ (by simp [k33, g54]) (by simp [k33, g54]) (fin47 v20.2 hx)
noncomputable def mk_Tape_Sorted_l0 (v3 : Int) (v1 : List Int) (v13 : List Int) (v14 : Int) (v15 : Int) : Option ((List Int × Int × Int) ⊕ (Int × List Int)) :=
  bif decide (v14 < v3) then ((mk_Tape_Next v1 v15 2).bind fun v17 => bif decide (v17.1 = 1) then (chk ((v13.length + 1) * 8 ≤ 140737488355328) (contO (((v13 ++ [v14]), IntKind.i64.wrap (v14 + 1), v17.2) : List Int × Int × Int))) else (contO ((v13, IntKind.i64.wrap (v14 + 1), v17.2) : List Int × Int × Int))) else (exitO (some ((v15, v13) : Int × List Int)))
noncomputable def mk_Tape_Sorted (v1 : List Int) (v2 : Int) (v3 : Int) : Option (Int × List Int) :=
  iter (fun g : List Int × Int × Int => mk_Tape_Sorted_l0 v3 v1 g.1 g.2.1 g.2.2) ([], 0, v2)
theorem mk_Tape_Sorted_ok (v1 : List Int) (v2 : Int) (v3 : Int) (r : Int × List Int) (hx : mk_Tape_Sorted v1 v2 v3 = some r) :
    ACalls Try.prog 28 [.box 0 0, .d (.int .i64 v3)] [(0, some (.box [.d (.sl (List.map iD v1)), .d (.int .i64 v2)]))] (.arr 2000 0 r.2.length) [(0, some (.box [.d (.sl (List.map iD v1)), .d (.int .i64 r.1)])), (2000, some (.arr 3 1 (List.map iD r.2)))] := by
  refine ACalls.of_sem (n := 20) 1 [4] (fn := Try.f28) Try.func28 rfl rfl (.one rfl) rfl (by simp) (by intro i; simp only [hget]; (repeat' split) <;> simp <;> omega) ?_
  unfold mk_Tape_Sorted at hx
  refine Walk.seq (Walk.region' rfl fun K hK => ?_)
  simp only [go_sem, seval]
  refine hK _ ?_
  clear hK K
  refine Walk.seq (Walk.region' rfl fun K hK => ?_)
  simp only [go_sem, seval]
  refine hK _ ?_
  clear hK K
  refine Walk.seq (Walk.seq (Walk.region' rfl fun K hK => ?_))
  simp only [go_sem, seval]
  refine hK _ ?_
  clear hK K
  refine Walk.block (Walk.loop ?_)
  refine Walk.weaken ⟨[(0, .box 0 0), (1, .d (.int .i64 v3)), (5, .nils), (6, .d (.int .i64 0))], [(0, some (.box [.d (.sl (List.map iD v1)), .d (.int .i64 v2)]))]⟩ (by simp) (by simp) ?_
  refine Walk.up 1002 3 1 [(0, .box 0 0), (1, .d (.int .i64 v3)), (5, .arr 1002 0 0), (6, .d (.int .i64 0))] [(0, some (.box [.d (.sl (List.map iD v1)), .d (.int .i64 v2)]))] (by simp) (by simp) (by omega) (by simp) (by simp) (by simp) ?_
  refine Walk.weaken ⟨[(0, .box 0 0), (1, .d (.int .i64 v3)), (5, .arr 1002 0 0), (6, .d (.int .i64 0))], [(0, some (.box [.d (.sl (List.map iD v1)), .d (.int .i64 v2)])), (1002, some (.arr 3 1 (List.map iD [])))]⟩ (by simp) (by simp) ?_
  refine Walk.iter (σ := List Int × Int × Int) (fun g => ⟨[(0, .box 0 0), (1, .d (.int .i64 v3)), (5, .arr 1002 0 g.1.length), (6, .d (.int .i64 g.2.1))], [(0, some (.box [.d (.sl (List.map iD v1)), .d (.int .i64 g.2.2)])), (1002, some (.arr 3 1 (List.map iD g.1)))]⟩) (fun g : List Int × Int × Int => mk_Tape_Sorted_l0 v3 v1 g.1 g.2.1 g.2.2) _ (fun g y43 hx ih33 hr34 => ?_) ([], 0, v2) hx
  obtain ⟨v13, v14, v15⟩ := g
  unfold mk_Tape_Sorted_l0 at hx
  try dsimp only at hx ⊢
  refine Walk.seq (Walk.seq (Walk.region' rfl fun K hK => ?_))
  simp only [go_sem, seval]
  refine hK _ ?_
  clear hK K
  refine Walk.condO rfl hx (fun c37 hx => ?_) (fun c37 hx => ?_)
  · refine Walk.skip (Walk.seq (Walk.block (Walk.seq (Walk.region' rfl fun K hK => ?_))))
    obtain ⟨v17, h38, hx⟩ := bind_elim hx
    simp only [go_sem, seval, c37]
    refine VCl.sub [(0, some (.box [.d (.sl (List.map iD v1)), .d (.int .i64 v15)]))] [] rfl (by simp only [go_sem, seval, AV.viewXs, AV.viewX, avD, c37]; try simp) (mk_Tape_Next_ok v1 v15 2 _ h38) (by simp [c37]) (by simp [c37]) (by simp [c37]) (by simp [c37]) (by simp [c37]) (by simp [c37]) (by simp [c37]) (by simp [c37]) (by simp [c37]) (by simp [c37]) ?_
    simp only [go_sem, seval, c37]
    refine hK _ ?_
    clear hK K
    refine Walk.weaken ⟨[(0, .box 0 0), (1, .d (.int .i64 v3)), (5, .arr 1002 0 v13.length), (6, .d (.int .i64 v14)), (14, .d (.bool (decide (v17.1 = 1))))], [(0, some (.box [.d (.sl (List.map iD v1)), .d (.int .i64 v17.2)])), (1002, some (.arr 3 1 (List.map iD v13)))]⟩ (by simp [c37]) (by simp [c37]) ?_
    refine Walk.condO rfl hx (fun c39 hx => ?_) (fun c39 hx => ?_)
    · refine Walk.region' rfl fun K hK => ?_
      obtain ⟨k40, hx⟩ := chk_elim hx
      simp only [go_sem, seval, c37, c39, k40]
      repeat refine And.intro (by first | omega | (simp; done) | (simp; omega)) ?_
      refine hK _ ?_
      clear hK K
      refine Walk.weaken ⟨[(0, .box 0 0), (1, .d (.int .i64 v3)), (5, .arr 1002 0 ((v13 ++ [v14]).length)), (6, .d (.int .i64 v14))], [(0, some (.box [.d (.sl (List.map iD v1)), .d (.int .i64 v17.2)])), (1002, some (.arr 3 1 (List.map iD (v13 ++ [v14]))))]⟩ (by simp [c37, c39, k40]) (by simp [c37, c39, k40]) ?_
      refine Walk.inBlock (Walk.region' rfl fun K hK => ?_)
      simp only [go_sem, seval, c37, c39, k40]
      refine hK _ ?_
      clear hK K
      exact Walk.weaken _ (by simp [c37, c39, k40]) (by simp [c37, c39, k40]) (ih33 _ (cont_elim hx))
    · refine Walk.skip (Walk.inBlock (Walk.region' rfl fun K hK => ?_))
      simp only [go_sem, seval, c37, c39]
      refine hK _ ?_
      clear hK K
      exact Walk.weaken _ (by simp [c37, c39]) (by simp [c37, c39]) (ih33 _ (cont_elim hx))
  · refine Walk.exit rfl ?_
    obtain ⟨z41, e42, hx⟩ := exit_elim hx
    rw [hr34 z41 e42] at hx
    refine Walk.seq (Walk.region' rfl fun K hK => ?_)
    simp only [go_sem, seval, c37]
    refine hK _ ?_
    clear hK K
    refine Walk.weaken ⟨[(4, .arr 1002 0 v13.length)], [(0, some (.box [.d (.sl (List.map iD v1)), .d (.int .i64 v15)])), (1002, some (.arr 3 1 (List.map iD v13)))]⟩ (by simp [c37]) (by simp [c37]) ?_
    refine Walk.rename 1002 2000 (by omega) (by omega) (by simp) (by simp) ?_
    simp only [renE, renL, AV.ren, AV.rens, AObj.ren, swp, Option.map_some, reduceIte, Nat.reduceEqDiff]
    obtain rfl := Option.some.inj hx
    exact Walk.ret ⟨by simp [c37], by simp [c37]⟩
end Go.AX
