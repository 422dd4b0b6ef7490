import Derived.Test.YtccoondkihlgfaaE2
set_option linter.unusedVariables false
set_option linter.unusedSimpArgs false
set_option maxRecDepth 20000
set_option maxHeartbeats 4000000
namespace Go.AX
open Go.Proofs
attribute [local simp] spl_len take_snoc take_cons_drop cons_rep cons_tail iA bA take_set_len idsL_rep idsL_iA idsL_bA idsL_sA idsL_set_mem idsL_sub sA_def List.map_replicate frVs_setS frVs_self frV_arr take_map_len subE subH eget hget upE upV upH upO_refl upO_box upVs freshE freshH freshO AV.ids AV.idsL ids_box ids_arr frE frV_refl frV_arr frH frO_refl frO_box frVs newOk evalA AV.viewXs AV.viewX AV.viewXP AV.viewXPs AV.viewPs AV.viewP AV.flat AV.flatL D.flat arrsOnly flatObjs newNames subOf closedIn allSome dstOk newOrOld avD avDp zv_i64 zv_u8 zv_bool zv_nils zv_nilp zv_str retAV aLoad cut TI.isAgg nlE nlH nlO_refl nlO_box nlVs nlV_refl nlV_nil iD uD bD tD lD List.map_set ti2 ti3 ti4 ti5 ti6 ti7 ti8 ti9 ti10 ti11 ti12 ti13 ti14 ti15 ti16 ti17 ti18 ti19 ti21 ti22 ti23 ti25 ti26 ti27 ti32 ti33 ti34 ti41 ti42 ti50 ti51 ti56 ti60 ti61 ti63 ti64 ti74 ti76 ti89 ti92 ti96 ti97 ti98 ti99 ti100 ti101 ti102 ti104 ti105 ti106 ti107 ti108 Row.D Node.D
attribute [local go_sem] V1_none V1_some V_nil V_move V_assign V_pick V_bin V_un V_extract V_makeFunc V_convert V_nilCheck V_fieldAddr V_field V_load V_store V_indexAddr V_index V_slice V_slice0 V_alloc V_box V_build V_buildSlice V_makeSlice V_len V_min V_max V_append V_copy V_call V_guard VGs_some VG_tt VG_ff VG_tf VG_ft VG_u gslot ok fail po so aNew dstOk freshU addLog_none' addLog_some' St.step putL evalA eget hget argE freshE freshO freshH AV.ids AV.idsL AV.ok1 AV.cells ids_box ids_arr liveBox liveArr isArr isObj isBoxB aPick isNilC aNilEq aBin aUn aExtract aMakeFunc aConvert aNilCheck aFieldAddr aField cut aLen aIndexAddr aMin aMax aIndex bnd isInt aSlice aSlice0 aLoad aAlloc aBox aStore splice aMake aMakeBox aCopy cellsOf cellsOfP updIds newIds zv_i64 zv_u8 zv_bool zv_nils zv_nilp cond_bool cond_int TI.isAgg TK.isSl TK.el okL avDps avDp avD List.map_cons List.map_nil List.append_nil List.nil_append List.cons_append List.length_cons List.length_nil List.take_succ_cons List.take_zero List.drop_succ_cons List.drop_zero List.take_nil List.drop_nil List.headD_cons List.getD_cons_zero List.getD_cons_succ List.mem_cons List.not_mem_nil List.getElem?_cons_zero List.getElem?_cons_succ List.toList_toArray Option.getD_some Option.getD_none Option.bind_some Option.bind_none Option.map_some Option.map_none Option.getD Option.toList Nat.zero_add Nat.add_zero Nat.zero_le Nat.le_refl if_true if_false ite_self true_and and_true false_and and_false true_or or_true false_or or_false not_true_eq_false not_false_eq_true ne_eq cond_true cond_false Bool.true_eq_false Bool.false_eq_true forall_const decide_true decide_false implies_true true_implies and_self or_self Nat.succ_ne_zero Int.toNat_natCast Int.natCast_nonneg List.length_map decide_eq_true_eq AV.views AV.view AV.viewPs AV.viewP arrsOnly newNames List.length_append List.append_assoc Bool.not_true Bool.not_false AV.ok2 aBuild fillR fillP aBuildSlice dense elP aAppend esOf esOfP List.forall_mem_cons forall_eq_or_imp forall_eq zD zDp map_take' map_drop' iD uD bD tD lD iD_len uD_len bD_len tD_len lD_len LB Int.cast_ofNat_Int Int.natCast_zero Int.natCast_one head_len all_len List.head?_cons List.head?_nil Bool.not_not eq_self List.take_length zv_str aConv byteOf isByte map_bcell bytes_all str_map cellsEq cellsP AV.kd Bool.and_true Bool.true_and Bool.and_false Bool.false_and spl_map spl_len mkbox_i mkbox_b flat_iD dataL_iA dataL_bA zv_u64 flat_iD' flat_len dataL_tA dataL_ttA spl_mt spl_mtt mkbox_s splice_one take_cons_drop cons_rep cons_tail hd_set hd_set0 List.length_replicate iA bA sA_def List.set_set List.length_set idsL_iA idsL_bA idsL_sA idsL_setE idsL_rep List.append_eq Nat.mul_one ti2 ti3 ti4 ti5 ti6 ti7 ti8 ti9 ti10 ti11 ti12 ti13 ti14 ti15 ti16 ti17 ti18 ti19 ti21 ti22 ti23 ti25 ti26 ti27 ti32 ti33 ti34 ti41 ti42 ti50 ti51 ti56 ti60 ti61 ti63 ti64 ti74 ti76 ti89 ti92 ti96 ti97 ti98 ti99 ti100 ti101 ti102 ti104 ti105 ti106 ti107 ti108 Row.D Node.D Row.D_len Node.D_len
noncomputable def slices_ContainsFunc_int__belongs_1 (v1 : List Int) : Option (Bool) :=
  (slices_IndexFunc_int__belongs_1 v1).bind fun v4 => some (decide (v4 ≥ 0) : Bool)
theorem slices_ContainsFunc_int__belongs_1_ok (v1 : List Int) (r : Bool) (hx : slices_ContainsFunc_int__belongs_1 v1 = some r) :
    ACalls Try.prog 64 [.d (.sl (List.map iD v1)), .fn 65 []] [] (.d (.bool r)) [] := by
  refine ACalls.of_sem (n := 9) 0 [4] (fn := Try.f64) Try.func64 rfl rfl (.one rfl) rfl (by simp) (by intro i; simp only [hget]; (repeat' split) <;> simp <;> omega) ?_
  unfold slices_ContainsFunc_int__belongs_1 at hx
  refine Walk.seq (Walk.region' rfl fun K hK => ?_)
  simp only [go_sem, seval]
  refine hK _ ?_
  clear hK K
  refine Walk.seq (Walk.region' rfl fun K hK => ?_)
  obtain ⟨v4, h2, hx⟩ := bind_elim hx
  simp only [go_sem, seval]
  refine VCl.pure rfl (by simp only [go_sem, seval]; try simp) (slices_IndexFunc_int__belongs_1_ok v1 _ h2) (by simp only [go_sem, seval]; try simp) (by simp only [go_sem, seval]; try simp) (by simp only [go_sem, seval]; try simp) (by simp only [go_sem, seval]; try simp) (by simp only [go_sem, seval]; try simp) (by simp only [go_sem, seval]; try simp) ?_
  simp only [go_sem, seval]
  refine hK _ ?_
  clear hK K
  obtain rfl := Option.some.inj hx
  exact Walk.ret ⟨by simp, by simp⟩
noncomputable def optimality_belongs (v1 : List Int) (v2 : List Row) (v3 : List Int) : Option (Bool) :=
  bif decide ((v3.length : Int) = (v1.length : Int)) then ((slices_ContainsFunc_int__belongs_1 v3).bind fun v6 => some (!v6 : Bool)) else (some (false : Bool))
theorem optimality_belongs_ok (v1 : List Int) (v2 : List Row) (v3 : List Int) (r : Bool) (hx : optimality_belongs v1 v2 v3 = some r) :
    ACalls Try.prog 41 [.agg [.d (.sl (List.map iD v1)), .d (.sl (List.map Row.D v2))], .d (.sl (List.map iD v3))] [] (.d (.bool r)) [] := by
  refine ACalls.of_sem (n := 16) 0 [4] (fn := Try.f41) Try.func41 rfl rfl (.one rfl) rfl (by simp) (by intro i; simp only [hget]; (repeat' split) <;> simp <;> omega) ?_
  unfold optimality_belongs at hx
  refine Walk.seq (Walk.region' rfl fun K hK => ?_)
  simp only [go_sem, seval]
  refine hK _ ?_
  clear hK K
  refine Walk.seq (Walk.region' rfl fun K hK => ?_)
  simp only [go_sem, seval]
  refine VGdO hx (fun g3 hx => ?_) (fun g3 hx => ?_)
  · obtain ⟨v6, h4, hx⟩ := bind_elim hx
    simp only [go_sem, seval, g3]
    refine VCl.pure rfl (by simp only [go_sem, seval, g3]; try simp) (slices_ContainsFunc_int__belongs_1_ok v3 _ h4) (by simp only [go_sem, seval, g3]; try simp) (by simp only [go_sem, seval, g3]; try simp) (by simp only [go_sem, seval, g3]; try simp) (by simp only [go_sem, seval, g3]; try simp) (by simp only [go_sem, seval, g3]; try simp) (by simp only [go_sem, seval, g3]; try simp) ?_
    simp only [go_sem, seval, g3]
    refine hK _ ?_
    clear hK K
    obtain rfl := Option.some.inj hx
    exact Walk.ret ⟨by simp [g3], by simp [g3]⟩
  simp only [go_sem, seval, g3]
  refine hK _ ?_
  clear hK K
  obtain rfl := Option.some.inj hx
  exact Walk.ret ⟨by simp [g3], by simp [g3]⟩
noncomputable def optimality_formed (v1 : List Int) (v2 : List Row) (v3 : Int) (v4 : Int) (v5 : Int) (v6 : Int) (v7 : Int) (v8 : Int) (v9 : Int) : Option (Bool) :=
  bif decide (v7 ≥ 0) then (bif decide (v3 = 2) then (some (decide (v7 < (v2.length : Int)) : Bool)) else (bif decide (v3 = 3) then (bif decide (v7 = (-1)) then (bif decide (v8 = 0) then (bif decide (v9 = 1) then (some (true : Bool)) else (bif decide (v7 < (v2.length : Int)) then (bif decide (v8 ≥ (-10000)) then (bif decide (v8 ≤ 10000) then (bif decide (v9 ≥ 1) then (some (decide (v9 ≤ 10000) : Bool)) else (some (false : Bool))) else (some (false : Bool))) else (some (false : Bool))) else (some (false : Bool)))) else (bif decide (v7 < (v2.length : Int)) then (bif decide (v8 ≥ (-10000)) then (bif decide (v8 ≤ 10000) then (bif decide (v9 ≥ 1) then (some (decide (v9 ≤ 10000) : Bool)) else (some (false : Bool))) else (some (false : Bool))) else (some (false : Bool))) else (some (false : Bool)))) else (bif decide (v7 < (v2.length : Int)) then (bif decide (v8 ≥ (-10000)) then (bif decide (v8 ≤ 10000) then (bif decide (v9 ≥ 1) then (some (decide (v9 ≤ 10000) : Bool)) else (some (false : Bool))) else (some (false : Bool))) else (some (false : Bool))) else (some (false : Bool)))) else (some (false : Bool)))) else (bif decide (v3 = 2) then (some (false : Bool)) else (bif decide (v3 = 3) then (bif decide (v7 = (-1)) then (bif decide (v8 = 0) then (bif decide (v9 = 1) then (some (true : Bool)) else (some (false : Bool))) else (some (false : Bool))) else (some (false : Bool))) else (some (false : Bool))))
theorem optimality_formed_ok (v1 : List Int) (v2 : List Row) (v3 : Int) (v4 : Int) (v5 : Int) (v6 : Int) (v7 : Int) (v8 : Int) (v9 : Int) (r : Bool) (hx : optimality_formed v1 v2 v3 v4 v5 v6 v7 v8 v9 = some r) :
    ACalls Try.prog 42 [.agg [.d (.sl (List.map iD v1)), .d (.sl (List.map Row.D v2))], .agg [.d (.int .i64 v3), .d (.int .i64 v4), .d (.int .i64 v5), .d (.int .i64 v6), .d (.int .i64 v7), .d (.int .i64 v8), .d (.int .i64 v9)]] [] (.d (.bool r)) [] := by
  refine ACalls.of_sem (n := 60) 0 [4] (fn := Try.f42) Try.func42 rfl rfl (.one rfl) rfl (by simp) (by intro i; simp only [hget]; (repeat' split) <;> simp <;> omega) ?_
  unfold optimality_formed at hx
  refine Walk.seq (Walk.region' rfl fun K hK => ?_)
  simp only [go_sem, seval]
  refine hK _ ?_
  clear hK K
  refine Walk.seq (Walk.region' rfl fun K hK => ?_)
  simp only [go_sem, seval]
  refine VGdO hx (fun g24 hx => ?_) (fun g24 hx => ?_)
  · simp only [go_sem, seval, g24]
    refine hK _ ?_
    clear hK K
    refine Walk.seq (Walk.seq (Walk.region' rfl fun K hK => ?_))
    simp only [go_sem, seval, g24]
    refine hK _ ?_
    clear hK K
    refine Walk.block (Walk.seq (Walk.region' rfl fun K hK => ?_))
    simp only [go_sem, seval, g24]
    refine hK _ ?_
    clear hK K
    refine Walk.condO rfl hx (fun c25 hx => ?_) (fun c25 hx => ?_)
    · refine Walk.seq (Walk.region' rfl fun K hK => ?_)
      simp only [go_sem, seval, g24, c25]
      refine hK _ ?_
      clear hK K
      obtain rfl := Option.some.inj hx
      exact Walk.ret ⟨by simp [g24, c25], by simp [g24, c25]⟩
    refine Walk.seq (Walk.region' rfl fun K hK => ?_)
    simp only [go_sem, seval, g24, c25]
    refine hK _ ?_
    clear hK K
    refine Walk.condO rfl hx (fun c26 hx => ?_) (fun c26 hx => ?_)
    · refine Walk.seq (Walk.region' rfl fun K hK => ?_)
      simp only [go_sem, seval, g24, c25, c26]
      refine VGdO hx (fun g27 hx => ?_) (fun g27 hx => ?_)
      · simp only [go_sem, seval, g24, c25, c26, g27]
        refine VGdO hx (fun g28 hx => ?_) (fun g28 hx => ?_)
        · simp only [go_sem, seval, g24, c25, c26, g27, g28]
          refine VGdO hx (fun g29 hx => ?_) (fun g29 hx => ?_)
          · simp only [go_sem, seval, g24, c25, c26, g27, g28, g29]
            refine hK _ ?_
            clear hK K
            obtain rfl := Option.some.inj hx
            exact Walk.ret ⟨by simp [g24, c25, c26, g27, g28, g29], by simp [g24, c25, c26, g27, g28, g29]⟩
          simp only [go_sem, seval, g24, c25, c26, g27, g28, g29]
          refine VGdO hx (fun g30 hx => ?_) (fun g30 hx => ?_)
          · simp only [go_sem, seval, g24, c25, c26, g27, g28, g29, g30]
            refine VGdO hx (fun g31 hx => ?_) (fun g31 hx => ?_)
            · simp only [go_sem, seval, g24, c25, c26, g27, g28, g29, g30, g31]
              refine VGdO hx (fun g32 hx => ?_) (fun g32 hx => ?_)
              · simp only [go_sem, seval, g24, c25, c26, g27, g28, g29, g30, g31, g32]
                refine VGdO hx (fun g33 hx => ?_) (fun g33 hx => ?_)
                · simp only [go_sem, seval, g24, c25, c26, g27, g28, g29, g30, g31, g32, g33]
                  refine hK _ ?_
                  clear hK K
                  obtain rfl := Option.some.inj hx
                  exact Walk.ret ⟨by simp [g24, c25, c26, g27, g28, g29, g30, g31, g32, g33], by simp [g24, c25, c26, g27, g28, g29, g30, g31, g32, g33]⟩
                simp only [go_sem, seval, g24, c25, c26, g27, g28, g29, g30, g31, g32, g33]
                refine hK _ ?_
                clear hK K
                obtain rfl := Option.some.inj hx
                exact Walk.ret ⟨by simp [g24, c25, c26, g27, g28, g29, g30, g31, g32, g33], by simp [g24, c25, c26, g27, g28, g29, g30, g31, g32, g33]⟩
              simp only [go_sem, seval, g24, c25, c26, g27, g28, g29, g30, g31, g32]
              refine hK _ ?_
              clear hK K
              obtain rfl := Option.some.inj hx
              exact Walk.ret ⟨by simp [g24, c25, c26, g27, g28, g29, g30, g31, g32], by simp [g24, c25, c26, g27, g28, g29, g30, g31, g32]⟩
            simp only [go_sem, seval, g24, c25, c26, g27, g28, g29, g30, g31]
            refine hK _ ?_
            clear hK K
            obtain rfl := Option.some.inj hx
            exact Walk.ret ⟨by simp [g24, c25, c26, g27, g28, g29, g30, g31], by simp [g24, c25, c26, g27, g28, g29, g30, g31]⟩
          simp only [go_sem, seval, g24, c25, c26, g27, g28, g29, g30]
          refine hK _ ?_
          clear hK K
          obtain rfl := Option.some.inj hx
          exact Walk.ret ⟨by simp [g24, c25, c26, g27, g28, g29, g30], by simp [g24, c25, c26, g27, g28, g29, g30]⟩
        simp only [go_sem, seval, g24, c25, c26, g27, g28]
        refine VGdO hx (fun g34 hx => ?_) (fun g34 hx => ?_)
        · simp only [go_sem, seval, g24, c25, c26, g27, g28, g34]
          refine VGdO hx (fun g35 hx => ?_) (fun g35 hx => ?_)
          · simp only [go_sem, seval, g24, c25, c26, g27, g28, g34, g35]
            refine VGdO hx (fun g36 hx => ?_) (fun g36 hx => ?_)
            · simp only [go_sem, seval, g24, c25, c26, g27, g28, g34, g35, g36]
              refine VGdO hx (fun g37 hx => ?_) (fun g37 hx => ?_)
              · simp only [go_sem, seval, g24, c25, c26, g27, g28, g34, g35, g36, g37]
                refine hK _ ?_
                clear hK K
                obtain rfl := Option.some.inj hx
                exact Walk.ret ⟨by simp [g24, c25, c26, g27, g28, g34, g35, g36, g37], by simp [g24, c25, c26, g27, g28, g34, g35, g36, g37]⟩
              simp only [go_sem, seval, g24, c25, c26, g27, g28, g34, g35, g36, g37]
              refine hK _ ?_
              clear hK K
              obtain rfl := Option.some.inj hx
              exact Walk.ret ⟨by simp [g24, c25, c26, g27, g28, g34, g35, g36, g37], by simp [g24, c25, c26, g27, g28, g34, g35, g36, g37]⟩
            simp only [go_sem, seval, g24, c25, c26, g27, g28, g34, g35, g36]
            refine hK _ ?_
            clear hK K
            obtain rfl := Option.some.inj hx
            exact Walk.ret ⟨by simp [g24, c25, c26, g27, g28, g34, g35, g36], by simp [g24, c25, c26, g27, g28, g34, g35, g36]⟩
          simp only [go_sem, seval, g24, c25, c26, g27, g28, g34, g35]
          refine hK _ ?_
          clear hK K
          obtain rfl := Option.some.inj hx
          exact Walk.ret ⟨by simp [g24, c25, c26, g27, g28, g34, g35], by simp [g24, c25, c26, g27, g28, g34, g35]⟩
        simp only [go_sem, seval, g24, c25, c26, g27, g28, g34]
        refine hK _ ?_
        clear hK K
        obtain rfl := Option.some.inj hx
        exact Walk.ret ⟨by simp [g24, c25, c26, g27, g28, g34], by simp [g24, c25, c26, g27, g28, g34]⟩
      simp only [go_sem, seval, g24, c25, c26, g27]
      refine VGdO hx (fun g38 hx => ?_) (fun g38 hx => ?_)
      · simp only [go_sem, seval, g24, c25, c26, g27, g38]
        refine VGdO hx (fun g39 hx => ?_) (fun g39 hx => ?_)
        · simp only [go_sem, seval, g24, c25, c26, g27, g38, g39]
          refine VGdO hx (fun g40 hx => ?_) (fun g40 hx => ?_)
          · simp only [go_sem, seval, g24, c25, c26, g27, g38, g39, g40]
            refine VGdO hx (fun g41 hx => ?_) (fun g41 hx => ?_)
            · simp only [go_sem, seval, g24, c25, c26, g27, g38, g39, g40, g41]
              refine hK _ ?_
              clear hK K
              obtain rfl := Option.some.inj hx
              exact Walk.ret ⟨by simp [g24, c25, c26, g27, g38, g39, g40, g41], by simp [g24, c25, c26, g27, g38, g39, g40, g41]⟩
            simp only [go_sem, seval, g24, c25, c26, g27, g38, g39, g40, g41]
            refine hK _ ?_
            clear hK K
            obtain rfl := Option.some.inj hx
            exact Walk.ret ⟨by simp [g24, c25, c26, g27, g38, g39, g40, g41], by simp [g24, c25, c26, g27, g38, g39, g40, g41]⟩
          simp only [go_sem, seval, g24, c25, c26, g27, g38, g39, g40]
          refine hK _ ?_
          clear hK K
          obtain rfl := Option.some.inj hx
          exact Walk.ret ⟨by simp [g24, c25, c26, g27, g38, g39, g40], by simp [g24, c25, c26, g27, g38, g39, g40]⟩
        simp only [go_sem, seval, g24, c25, c26, g27, g38, g39]
        refine hK _ ?_
        clear hK K
        obtain rfl := Option.some.inj hx
        exact Walk.ret ⟨by simp [g24, c25, c26, g27, g38, g39], by simp [g24, c25, c26, g27, g38, g39]⟩
      simp only [go_sem, seval, g24, c25, c26, g27, g38]
      refine hK _ ?_
      clear hK K
      obtain rfl := Option.some.inj hx
      exact Walk.ret ⟨by simp [g24, c25, c26, g27, g38], by simp [g24, c25, c26, g27, g38]⟩
    refine Walk.skip (Walk.inBlock (Walk.seq (Walk.region' rfl fun K hK => ?_)))
    simp only [go_sem, seval, g24, c25, c26]
    refine hK _ ?_
    clear hK K
    obtain rfl := Option.some.inj hx
    exact Walk.ret ⟨by simp [g24, c25, c26], by simp [g24, c25, c26]⟩
  simp only [go_sem, seval, g24]
  refine hK _ ?_
  clear hK K
  refine Walk.seq (Walk.seq (Walk.region' rfl fun K hK => ?_))
  simp only [go_sem, seval, g24]
  refine hK _ ?_
  clear hK K
  refine Walk.block (Walk.seq (Walk.region' rfl fun K hK => ?_))
  simp only [go_sem, seval, g24]
  refine hK _ ?_
  clear hK K
  refine Walk.condO rfl hx (fun c42 hx => ?_) (fun c42 hx => ?_)
  · refine Walk.seq (Walk.region' rfl fun K hK => ?_)
    simp only [go_sem, seval, g24, c42]
    refine hK _ ?_
    clear hK K
    obtain rfl := Option.some.inj hx
    exact Walk.ret ⟨by simp [g24, c42], by simp [g24, c42]⟩
  refine Walk.seq (Walk.region' rfl fun K hK => ?_)
  simp only [go_sem, seval, g24, c42]
  refine hK _ ?_
  clear hK K
  refine Walk.condO rfl hx (fun c43 hx => ?_) (fun c43 hx => ?_)
  · refine Walk.seq (Walk.region' rfl fun K hK => ?_)
    simp only [go_sem, seval, g24, c42, c43]
    refine VGdO hx (fun g44 hx => ?_) (fun g44 hx => ?_)
    · simp only [go_sem, seval, g24, c42, c43, g44]
      refine VGdO hx (fun g45 hx => ?_) (fun g45 hx => ?_)
      · simp only [go_sem, seval, g24, c42, c43, g44, g45]
        refine VGdO hx (fun g46 hx => ?_) (fun g46 hx => ?_)
        · simp only [go_sem, seval, g24, c42, c43, g44, g45, g46]
          refine hK _ ?_
          clear hK K
          obtain rfl := Option.some.inj hx
          exact Walk.ret ⟨by simp [g24, c42, c43, g44, g45, g46], by simp [g24, c42, c43, g44, g45, g46]⟩
        simp only [go_sem, seval, g24, c42, c43, g44, g45, g46]
        refine hK _ ?_
        clear hK K
        obtain rfl := Option.some.inj hx
        exact Walk.ret ⟨by simp [g24, c42, c43, g44, g45, g46], by simp [g24, c42, c43, g44, g45, g46]⟩
      simp only [go_sem, seval, g24, c42, c43, g44, g45]
      refine hK _ ?_
      clear hK K
      obtain rfl := Option.some.inj hx
      exact Walk.ret ⟨by simp [g24, c42, c43, g44, g45], by simp [g24, c42, c43, g44, g45]⟩
    simp only [go_sem, seval, g24, c42, c43, g44]
    refine hK _ ?_
    clear hK K
    obtain rfl := Option.some.inj hx
    exact Walk.ret ⟨by simp [g24, c42, c43, g44], by simp [g24, c42, c43, g44]⟩
  refine Walk.skip (Walk.inBlock (Walk.seq (Walk.region' rfl fun K hK => ?_)))
  simp only [go_sem, seval, g24, c42, c43]
  refine hK _ ?_
  clear hK K
  obtain rfl := Option.some.inj hx
  exact Walk.ret ⟨by simp [g24, c42, c43], by simp [g24, c42, c43]⟩
noncomputable def optimality_bound_l2 (v3 : List Int) (v1 : List Int) (v51 : List Int) (v10 : Int) (v9 : Int) (v80 : Int) (v81 : Int) : Option ((Int × Int) ⊕ (Int)) :=
  bif decide (v81 < (v3.length : Int)) then ((rd v3 v81).bind fun v85 => (rd v1 v81).bind fun v86 => (rd v51 v81).bind fun v87 => bif decide (v85 = 1) then (contO ((IntKind.i64.wrap (v80 + (IntKind.i64.wrap ((IntKind.i64.wrap (v10 * v86)) - (IntKind.i64.wrap (v9 * v87))))), IntKind.i64.wrap (v81 + 1)) : Int × Int)) else (bif decide (v85 = (-1)) then (contO ((IntKind.i64.wrap (v80 + ((min (IntKind.i64.wrap ((IntKind.i64.wrap (v10 * v86)) - (IntKind.i64.wrap (v9 * v87)))) 0))), IntKind.i64.wrap (v81 + 1)) : Int × Int)) else (contO ((v80, IntKind.i64.wrap (v81 + 1)) : Int × Int)))) else (exitO (chk (¬ v10 = 0) (chk (¬ v10 = 0) (bif decide ((v80.tmod v10) > 0) then (some (IntKind.i64.wrap ((IntKind.i64.wrap (v80.tdiv v10)) + 1) : Int)) else (some (IntKind.i64.wrap (v80.tdiv v10) : Int))))))
noncomputable def optimality_bound_j1 (v3 : List Int) (v1 : List Int) (v51 : List Int) (v10 : Int) (v9 : Int) (v54 : Int) : Option (Int) :=
  iter (fun g : Int × Int => optimality_bound_l2 v3 v1 v51 v10 v9 g.1 g.2) (v54, 0)
noncomputable def optimality_bound_j0 (v9 : Int) (v3 : List Int) (v1 : List Int) (v10 : Int) (v51 : List Int) (v52 : Int) (v53 : Int) : Option (Int) :=
  bif decide (v9 < 0) then (optimality_bound_j1 v3 v1 v51 v10 v9 (IntKind.i64.wrap (v9 * v53))) else (optimality_bound_j1 v3 v1 v51 v10 v9 (IntKind.i64.wrap (v9 * v52)))
noncomputable def optimality_bound (v1 : List Int) (v2 : List Row) (v3 : List Int) (v4 : Int) (v5 : Int) (v6 : Int) (v7 : Int) (v8 : Int) (v9 : Int) (v10 : Int) : Option (Int) :=
  chk ((0 : Int) ≤ (v1.length : Int) ∧ (v1.length : Int) = (v1.length : Int) ∧ 8 * (v1.length : Int) ≤ 281474976710656 ∧ (v1.length : Int) ≤ 281474976710656) (bif decide (v8 ≥ 0) then ((rd v2 v8).bind fun v88 => optimality_bound_j0 v9 v3 v1 v10 v88.Coefs v88.Least v88.Most) else (optimality_bound_j0 v9 v3 v1 v10 (List.replicate v1.length (0 : Int)) 0 0))
theorem optimality_bound_ok (v1 : List Int) (v2 : List Row) (v3 : List Int) (v4 : Int) (v5 : Int) (v6 : Int) (v7 : Int) (v8 : Int) (v9 : Int) (v10 : Int) (r : Int) (hx : optimality_bound v1 v2 v3 v4 v5 v6 v7 v8 v9 v10 = some r) :
    ACalls Try.prog 43 [.agg [.d (.sl (List.map iD v1)), .d (.sl (List.map Row.D v2))], .d (.sl (List.map iD v3)), .agg [.d (.int .i64 v4), .d (.int .i64 v5), .d (.int .i64 v6), .d (.int .i64 v7), .d (.int .i64 v8), .d (.int .i64 v9), .d (.int .i64 v10)]] [] (.d (.int .i64 r)) [] := by
  refine ACalls.of_sem (n := 89) 0 [6] (fn := Try.f43) Try.func43 rfl rfl (.one rfl) rfl (by simp) (by intro i; simp only [hget]; (repeat' split) <;> simp <;> omega) ?_
  unfold optimality_bound at hx
  refine Walk.seq (Walk.region' rfl fun K hK => ?_)
  simp only [go_sem, seval]
  refine hK _ ?_
  clear hK K
  refine Walk.seq (Walk.region' rfl fun K hK => ?_)
  obtain ⟨k167, hx⟩ := chk_elim hx
  simp only [go_sem, seval, k167]
  repeat refine And.intro (by first | omega | (simp; done) | (simp; omega)) ?_
  refine hK _ ?_
  clear hK K
  refine Walk.weaken ⟨[(1, .d (.sl (List.map iD v3))), (3, .box 3 0), (5, .box 5 0), (7, .box 7 0)], [(3, some (.box [.d (.sl (List.map iD v1)), .d (.sl (List.map Row.D v2))])), (5, some (.box [.d (.int .i64 v4), .d (.int .i64 v5), .d (.int .i64 v6), .d (.int .i64 v7), .d (.int .i64 v8), .d (.int .i64 v9), .d (.int .i64 v10)])), (7, some (.box [.arr 16 0 (((List.replicate v1.length (0 : Int))).length), .d (.int .i64 0), .d (.int .i64 0)])), (16, some (.arr 3 1 (List.map iD ((List.replicate v1.length (0 : Int))))))]⟩ (by simp [k167] <;> omega) (by simp [k167] <;> omega) ?_
  refine Walk.seq (Walk.join (G := List Int × Int × Int) (fun g => ⟨[(1, .d (.sl (List.map iD v3))), (3, .box 3 0), (5, .box 5 0), (7, .box 7 0)], [(3, some (.box [.d (.sl (List.map iD v1)), .d (.sl (List.map Row.D v2))])), (5, some (.box [.d (.int .i64 v4), .d (.int .i64 v5), .d (.int .i64 v6), .d (.int .i64 v7), .d (.int .i64 v8), .d (.int .i64 v9), .d (.int .i64 v10)])), (7, some (.box [.d (.sl (List.map iD g.1)), .d (.int .i64 g.2.1), .d (.int .i64 g.2.2)]))]⟩) (fun g => optimality_bound_j0 v9 v3 v1 v10 g.1 g.2.1 g.2.2) hx (fun g hx => ?_) (fun fin173 => ?_))
  · obtain ⟨v51, v52, v53⟩ := g
    unfold optimality_bound_j0 at hx
    try dsimp only at hx ⊢
    refine Walk.seq (Walk.region' rfl fun K hK => ?_)
    simp only [go_sem, seval, k167]
    refine hK _ ?_
    clear hK K
    refine Walk.seq (Walk.join (G := Int) (fun g => ⟨[(1, .d (.sl (List.map iD v3))), (3, .box 3 0), (5, .box 5 0), (7, .box 7 0), (8, .d (.int .i64 g))], [(3, some (.box [.d (.sl (List.map iD v1)), .d (.sl (List.map Row.D v2))])), (5, some (.box [.d (.int .i64 v4), .d (.int .i64 v5), .d (.int .i64 v6), .d (.int .i64 v7), .d (.int .i64 v8), .d (.int .i64 v9), .d (.int .i64 v10)])), (7, some (.box [.d (.sl (List.map iD v51)), .d (.int .i64 v52), .d (.int .i64 v53)]))]⟩) (fun g => optimality_bound_j1 v3 v1 v51 v10 v9 g) hx (fun v54 hx => ?_) (fun fin175 => ?_))
    · unfold optimality_bound_j1 at hx
      try dsimp only at hx ⊢
      refine Walk.seq (Walk.seq (Walk.region' rfl fun K hK => ?_))
      simp only [go_sem, seval, k167]
      refine hK _ ?_
      clear hK K
      refine Walk.block (Walk.loop ?_)
      refine Walk.weaken ⟨[(3, .box 3 0), (5, .box 5 0), (7, .box 7 0), (8, .d (.int .i64 v54)), (40, .d (.sl (List.map iD v3))), (41, .d (.int .i64 (v3.length : Int))), (42, .d (.int .i64 0))], [(3, some (.box [.d (.sl (List.map iD v1)), .d (.sl (List.map Row.D v2))])), (5, some (.box [.d (.int .i64 v4), .d (.int .i64 v5), .d (.int .i64 v6), .d (.int .i64 v7), .d (.int .i64 v8), .d (.int .i64 v9), .d (.int .i64 v10)])), (7, some (.box [.d (.sl (List.map iD v51)), .d (.int .i64 v52), .d (.int .i64 v53)]))]⟩ (by simp [k167] <;> omega) (by simp [k167] <;> omega) ?_
      refine Walk.iter (σ := Int × Int) (fun g => ⟨[(3, .box 3 0), (5, .box 5 0), (7, .box 7 0), (8, .d (.int .i64 g.1)), (40, .d (.sl (List.map iD v3))), (41, .d (.int .i64 (v3.length : Int))), (42, .d (.int .i64 g.2))], [(3, some (.box [.d (.sl (List.map iD v1)), .d (.sl (List.map Row.D v2))])), (5, some (.box [.d (.int .i64 v4), .d (.int .i64 v5), .d (.int .i64 v6), .d (.int .i64 v7), .d (.int .i64 v8), .d (.int .i64 v9), .d (.int .i64 v10)])), (7, some (.box [.d (.sl (List.map iD v51)), .d (.int .i64 v52), .d (.int .i64 v53)]))]⟩) (fun g : Int × Int => optimality_bound_l2 v3 v1 v51 v10 v9 g.1 g.2) _ (fun g y335 hx ih312 hr313 => ?_) (v54, 0) hx
      obtain ⟨v80, v81⟩ := g
      unfold optimality_bound_l2 at hx
      try dsimp only at hx ⊢
      refine Walk.seq (Walk.region' rfl fun K hK => ?_)
      simp only [go_sem, seval, k167]
      refine hK _ ?_
      clear hK K
      refine Walk.seq (Walk.condO rfl hx (fun c315 hx => ?_) (fun c315 hx => ?_))
      · refine Walk.skip (Walk.seq (Walk.block (Walk.seq (Walk.region' rfl fun K hK => ?_))))
        obtain ⟨v85, r316, a317, b318, c319, hx⟩ := rd_elim hx
        simp only [go_sem, seval, k167, c315, a317, b318, c319]
        repeat refine And.intro (by first | omega | (simp; done) | (simp; omega)) ?_
        refine hK _ ?_
        clear hK K
        refine Walk.seq (Walk.drawn' rfl mixed fun K hK => ?_)
        obtain ⟨v86, r320, a321, b322, c323, hx⟩ := rd_elim hx
        obtain ⟨v87, r324, a325, b326, c327, hx⟩ := rd_elim hx
        simp only [go_sem, seval, k167, c315, a317, b318, c319, a321, b322, c323, a325, b326, c327]
        repeat refine And.intro (by first | omega | (simp; done) | (simp; omega)) ?_
        refine hK _ _ (by kernel_rfl) (by simp [k167, c315, a317, b318, c319, a321, b322, c323, a325, b326, c327]) ?_
        clear hK K
        refine Walk.seq (Walk.region' rfl fun K hK => ?_)
        simp only [go_sem, seval, k167, c315, a317, b318, c319, a321, b322, c323, a325, b326, c327]
        refine hK _ ?_
        clear hK K
        refine Walk.block (Walk.seq (Walk.region' rfl fun K hK => ?_))
        simp only [go_sem, seval, k167, c315, a317, b318, c319, a321, b322, c323, a325, b326, c327]
        refine hK _ ?_
        clear hK K
        refine Walk.condO rfl hx (fun c328 hx => ?_) (fun c328 hx => ?_)
        · refine Walk.region' rfl fun K hK => ?_
          simp only [go_sem, seval, k167, c315, a317, b318, c319, a321, b322, c323, a325, b326, c327, c328]
          refine hK _ ?_
          clear hK K
          refine Walk.inBlock (Walk.inBlock (Walk.region' rfl fun K hK => ?_))
          simp only [go_sem, seval, k167, c315, a317, b318, c319, a321, b322, c323, a325, b326, c327, c328]
          refine hK _ ?_
          clear hK K
          exact Walk.weaken _ (by simp [k167, c315, a317, b318, c319, a321, b322, c323, a325, b326, c327, c328] <;> omega) (by simp [k167, c315, a317, b318, c319, a321, b322, c323, a325, b326, c327, c328] <;> omega) (ih312 _ (cont_elim hx))
        refine Walk.seq (Walk.region' rfl fun K hK => ?_)
        simp only [go_sem, seval, k167, c315, a317, b318, c319, a321, b322, c323, a325, b326, c327, c328]
        refine hK _ ?_
        clear hK K
        refine Walk.condO rfl hx (fun c329 hx => ?_) (fun c329 hx => ?_)
        · refine Walk.region' rfl fun K hK => ?_
          simp only [go_sem, seval, k167, c315, a317, b318, c319, a321, b322, c323, a325, b326, c327, c328, c329]
          refine hK _ ?_
          clear hK K
          refine Walk.inBlock (Walk.inBlock (Walk.region' rfl fun K hK => ?_))
          simp only [go_sem, seval, k167, c315, a317, b318, c319, a321, b322, c323, a325, b326, c327, c328, c329]
          refine hK _ ?_
          clear hK K
          exact Walk.weaken _ (by simp [k167, c315, a317, b318, c319, a321, b322, c323, a325, b326, c327, c328, c329] <;> omega) (by simp [k167, c315, a317, b318, c319, a321, b322, c323, a325, b326, c327, c328, c329] <;> omega) (ih312 _ (cont_elim hx))
        refine Walk.skip (Walk.inBlock (Walk.inBlock (Walk.region' rfl fun K hK => ?_)))
        simp only [go_sem, seval, k167, c315, a317, b318, c319, a321, b322, c323, a325, b326, c327, c328, c329]
        refine hK _ ?_
        clear hK K
        exact Walk.weaken _ (by simp [k167, c315, a317, b318, c319, a321, b322, c323, a325, b326, c327, c328, c329] <;> omega) (by simp [k167, c315, a317, b318, c319, a321, b322, c323, a325, b326, c327, c328, c329] <;> omega) (ih312 _ (cont_elim hx))
      refine Walk.exit rfl ?_
      obtain ⟨z330, e331, hx⟩ := exit_elim hx
      rw [hr313 z330 e331] at hx
      refine Walk.seq (Walk.region' rfl fun K hK => ?_)
      obtain ⟨k332, hx⟩ := chk_elim hx
      simp only [go_sem, seval, k167, c315, k332]
      repeat refine And.intro (by first | omega | (simp; done) | (simp; omega)) ?_
      refine hK _ ?_
      clear hK K
      refine Walk.seq (Walk.seq (Walk.region' rfl fun K hK => ?_))
      obtain ⟨k333, hx⟩ := chk_elim hx
      simp only [go_sem, seval, k167, c315, k332, k333]
      repeat refine And.intro (by first | omega | (simp; done) | (simp; omega)) ?_
      refine hK _ ?_
      clear hK K
      refine Walk.condO rfl hx (fun c334 hx => ?_) (fun c334 hx => ?_)
      · refine Walk.region' rfl fun K hK => ?_
        simp only [go_sem, seval, k167, c315, k332, k333, c334]
        refine hK _ ?_
        clear hK K
        refine Walk.seq (Walk.region' rfl fun K hK => ?_)
        simp only [go_sem, seval, k167, c315, k332, k333, c334]
        refine hK _ ?_
        clear hK K
        obtain rfl := Option.some.inj hx
        exact Walk.ret ⟨by simp [k167, c315, k332, k333, c334], by simp [k167, c315, k332, k333, c334]⟩
      refine Walk.skip (Walk.seq (Walk.region' rfl fun K hK => ?_))
      simp only [go_sem, seval, k167, c315, k332, k333, c334]
      refine hK _ ?_
      clear hK K
      obtain rfl := Option.some.inj hx
      exact Walk.ret ⟨by simp [k167, c315, k332, k333, c334], by simp [k167, c315, k332, k333, c334]⟩
    refine Walk.seq (Walk.region' rfl fun K hK => ?_)
    simp only [go_sem, seval, k167]
    refine hK _ ?_
    clear hK K
    refine Walk.condO rfl hx (fun c336 hx => ?_) (fun c336 hx => ?_)
    · refine Walk.region' rfl fun K hK => ?_
      simp only [go_sem, seval, k167, c336]
      refine hK _ ?_
      clear hK K
      exact Walk.weaken _ (by simp [k167, c336] <;> omega) (by simp [k167, c336] <;> omega) (fin175 (IntKind.i64.wrap (v9 * v53)) hx)
    refine Walk.skip ?_
    exact Walk.weaken _ (by simp [k167, c336] <;> omega) (by simp [k167, c336] <;> omega) (fin175 (IntKind.i64.wrap (v9 * v52)) hx)
  refine Walk.seq (Walk.region' rfl fun K hK => ?_)
  simp only [go_sem, seval, k167]
  refine hK _ ?_
  clear hK K
  refine Walk.condO rfl hx (fun c337 hx => ?_) (fun c337 hx => ?_)
  · refine Walk.region' rfl fun K hK => ?_
    obtain ⟨v88, r338, a339, b340, c341, hx⟩ := rd_elim hx
    simp only [go_sem, seval, k167, c337, a339, b340, c341]
    repeat refine And.intro (by first | omega | (simp; done) | (simp; omega)) ?_
    refine hK _ ?_
    clear hK K
    exact Walk.weaken _ (by simp [k167, c337, a339, b340, c341] <;> omega) (by simp [k167, c337, a339, b340, c341] <;> omega) (fin173 (v88.Coefs, v88.Least, v88.Most) hx)
  refine Walk.skip ?_
  refine Walk.weaken ⟨[(1, .d (.sl (List.map iD v3))), (3, .box 3 0), (5, .box 5 0), (7, .box 7 0)], [(3, some (.box [.d (.sl (List.map iD v1)), .d (.sl (List.map Row.D v2))])), (5, some (.box [.d (.int .i64 v4), .d (.int .i64 v5), .d (.int .i64 v6), .d (.int .i64 v7), .d (.int .i64 v8), .d (.int .i64 v9), .d (.int .i64 v10)])), (7, some (.box [.arr 16 0 (((List.replicate v1.length (0 : Int))).length), .d (.int .i64 0), .d (.int .i64 0)])), (16, some (.arr 3 1 (List.map iD ((List.replicate v1.length (0 : Int))))))]⟩ (by simp [k167, c337] <;> omega) (by simp [k167, c337] <;> omega) ?_
  refine Walk.freeze 16 3 1 (List.map iD ((List.replicate v1.length (0 : Int)))) [(1, .d (.sl (List.map iD v3))), (3, .box 3 0), (5, .box 5 0), (7, .box 7 0)] [(3, some (.box [.d (.sl (List.map iD v1)), .d (.sl (List.map Row.D v2))])), (5, some (.box [.d (.int .i64 v4), .d (.int .i64 v5), .d (.int .i64 v6), .d (.int .i64 v7), .d (.int .i64 v8), .d (.int .i64 v9), .d (.int .i64 v10)])), (7, some (.box [.d (.sl (List.map iD ((List.replicate v1.length (0 : Int))))), .d (.int .i64 0), .d (.int .i64 0)]))] (by simp) (by simp) (by simp) ?_
  exact Walk.weaken _ (by simp [k167, c337] <;> omega) (by simp [k167, c337] <;> omega) (fin173 ((List.replicate v1.length (0 : Int)), 0, 0) hx)
noncomputable def optimality_Bound (v1 : List Int) (v2 : List Row) (v3 : List Int) (v4 : Int) (v5 : Int) (v6 : Int) (v7 : Int) (v8 : Int) (v9 : Int) (v10 : Int) : Option (Int × Bool) :=
  (blueprint_Valid v1 v2).bind fun v23 => bif !v23 then (some ((0, false) : Int × Bool)) else ((optimality_belongs v1 v2 v3).bind fun v24 => bif !v24 then (some ((0, false) : Int × Bool)) else (bif decide (¬ v4 = 3) then (some ((0, false) : Int × Bool)) else ((optimality_formed v1 v2 v4 v5 v6 v7 v8 v9 v10).bind fun v25 => bif !v25 then (some ((0, false) : Int × Bool)) else ((optimality_bound v1 v2 v3 v4 v5 v6 v7 v8 v9 v10).bind fun v26 => some ((v26, true) : Int × Bool)))))
theorem optimality_Bound_ok (v1 : List Int) (v2 : List Row) (v3 : List Int) (v4 : Int) (v5 : Int) (v6 : Int) (v7 : Int) (v8 : Int) (v9 : Int) (v10 : Int) (r : Int × Bool) (hx : optimality_Bound v1 v2 v3 v4 v5 v6 v7 v8 v9 v10 = some r) :
    ACalls Try.prog 18 [.agg [.d (.sl (List.map iD v1)), .d (.sl (List.map Row.D v2))], .d (.sl (List.map iD v3)), .agg [.d (.int .i64 v4), .d (.int .i64 v5), .d (.int .i64 v6), .d (.int .i64 v7), .d (.int .i64 v8), .d (.int .i64 v9), .d (.int .i64 v10)]] [] (.tup [.d (.int .i64 r.1), .d (.bool r.2)]) [] := by
  refine ACalls.of_sem (n := 32) 0 [6, 7] (fn := Try.f18) Try.func18 rfl rfl (.two rfl) rfl (by simp) (by intro i; simp only [hget]; (repeat' split) <;> simp <;> omega) ?_
  unfold optimality_Bound at hx
  refine Walk.seq (Walk.region' rfl fun K hK => ?_)
  simp only [go_sem, seval]
  refine hK _ ?_
  clear hK K
  refine Walk.seq (Walk.seq (Walk.region' rfl fun K hK => ?_))
  obtain ⟨v23, h24, hx⟩ := bind_elim hx
  simp only [go_sem, seval]
  refine VCl.pure rfl (by simp only [go_sem, seval]; try simp) (blueprint_Valid_ok v1 v2 _ h24) (by simp only [go_sem, seval]; try simp) (by simp only [go_sem, seval]; try simp) (by simp only [go_sem, seval]; try simp) (by simp only [go_sem, seval]; try simp) (by simp only [go_sem, seval]; try simp) (by simp only [go_sem, seval]; try simp) ?_
  simp only [go_sem, seval]
  refine VGdO hx (fun g25 hx => ?_) (fun g25 hx => ?_)
  · simp only [go_sem, seval, g25]
    refine hK _ ?_
    clear hK K
    refine Walk.condT rfl (Walk.seq (Walk.region' rfl fun K hK => ?_))
    simp only [go_sem, seval, g25]
    refine hK _ ?_
    clear hK K
    obtain rfl := Option.some.inj hx
    exact Walk.ret ⟨by simp [g25], by simp [g25]⟩
  obtain ⟨v24, h26, hx⟩ := bind_elim hx
  simp only [go_sem, seval, g25]
  refine VCl.pure rfl (by simp only [go_sem, seval, g25]; try simp) (optimality_belongs_ok v1 v2 v3 _ h26) (by simp only [go_sem, seval, g25]; try simp) (by simp only [go_sem, seval, g25]; try simp) (by simp only [go_sem, seval, g25]; try simp) (by simp only [go_sem, seval, g25]; try simp) (by simp only [go_sem, seval, g25]; try simp) (by simp only [go_sem, seval, g25]; try simp) ?_
  simp only [go_sem, seval, g25]
  refine VGdO hx (fun g27 hx => ?_) (fun g27 hx => ?_)
  · simp only [go_sem, seval, g25, g27]
    refine hK _ ?_
    clear hK K
    refine Walk.condT rfl (Walk.seq (Walk.region' rfl fun K hK => ?_))
    simp only [go_sem, seval, g25, g27]
    refine hK _ ?_
    clear hK K
    obtain rfl := Option.some.inj hx
    exact Walk.ret ⟨by simp [g25, g27], by simp [g25, g27]⟩
  simp only [go_sem, seval, g25, g27]
  refine VGdO hx (fun g28 hx => ?_) (fun g28 hx => ?_)
  · simp only [go_sem, seval, g25, g27, g28]
    refine hK _ ?_
    clear hK K
    refine Walk.condT rfl (Walk.seq (Walk.region' rfl fun K hK => ?_))
    simp only [go_sem, seval, g25, g27, g28]
    refine hK _ ?_
    clear hK K
    obtain rfl := Option.some.inj hx
    exact Walk.ret ⟨by simp [g25, g27, g28], by simp [g25, g27, g28]⟩
  obtain ⟨v25, h29, hx⟩ := bind_elim hx
  simp only [go_sem, seval, g25, g27, g28]
  refine VCl.pure rfl (by simp only [go_sem, seval, g25, g27, g28]; try simp) (optimality_formed_ok v1 v2 v4 v5 v6 v7 v8 v9 v10 _ h29) (by simp only [go_sem, seval, g25, g27, g28]; try simp) (by simp only [go_sem, seval, g25, g27, g28]; try simp) (by simp only [go_sem, seval, g25, g27, g28]; try simp) (by simp only [go_sem, seval, g25, g27, g28]; try simp) (by simp only [go_sem, seval, g25, g27, g28]; try simp) (by simp only [go_sem, seval, g25, g27, g28]; try simp) ?_
  simp only [go_sem, seval, g25, g27, g28]
  refine hK _ ?_
  clear hK K
  refine Walk.condO rfl hx (fun c31 hx => ?_) (fun c31 hx => ?_)
  · refine Walk.seq (Walk.region' rfl fun K hK => ?_)
    simp only [go_sem, seval, g25, g27, g28, c31]
    refine hK _ ?_
    clear hK K
    obtain rfl := Option.some.inj hx
    exact Walk.ret ⟨by simp [g25, g27, g28, c31], by simp [g25, g27, g28, c31]⟩
  refine Walk.skip (Walk.seq (Walk.region' rfl fun K hK => ?_))
  obtain ⟨v26, h32, hx⟩ := bind_elim hx
  simp only [go_sem, seval, g25, g27, g28, c31]
  refine VCl.pure rfl (by simp only [go_sem, seval, g25, g27, g28, c31]; try simp) (optimality_bound_ok v1 v2 v3 v4 v5 v6 v7 v8 v9 v10 _ h32) (by simp only [go_sem, seval, g25, g27, g28, c31]; try simp) (by simp only [go_sem, seval, g25, g27, g28, c31]; try simp) (by simp only [go_sem, seval, g25, g27, g28, c31]; try simp) (by simp only [go_sem, seval, g25, g27, g28, c31]; try simp) (by simp only [go_sem, seval, g25, g27, g28, c31]; try simp) (by simp only [go_sem, seval, g25, g27, g28, c31]; try simp) ?_
  simp only [go_sem, seval, g25, g27, g28, c31]
  refine hK _ ?_
  clear hK K
  obtain rfl := Option.some.inj hx
  exact Walk.ret ⟨by simp [g25, g27, g28, c31], by simp [g25, g27, g28, c31]⟩
noncomputable def ref08_inside (v1 : Int) (v2 : Int) : Option (Bool) :=
  bif decide (v1 ≥ 0) then (some (decide (v1 ≤ v2) : Bool)) else (some (false : Bool))
theorem ref08_inside_ok (v1 : Int) (v2 : Int) (r : Bool) (hx : ref08_inside v1 v2 = some r) :
    ACalls Try.prog 66 [.d (.int .i64 v1), .d (.int .i64 v2)] [] (.d (.bool r)) [] := by
  refine ACalls.of_sem (n := 12) 0 [4] (fn := Try.f66) Try.func66 rfl rfl (.one rfl) rfl (by simp) (by intro i; simp only [hget]; (repeat' split) <;> simp <;> omega) ?_
  unfold ref08_inside at hx
  refine Walk.seq (Walk.region' rfl fun K hK => ?_)
  simp only [go_sem, seval]
  refine hK _ ?_
  clear hK K
  refine Walk.seq (Walk.region' rfl fun K hK => ?_)
  simp only [go_sem, seval]
  refine VGdO hx (fun g2 hx => ?_) (fun g2 hx => ?_)
  · simp only [go_sem, seval, g2]
    refine hK _ ?_
    clear hK K
    obtain rfl := Option.some.inj hx
    exact Walk.ret ⟨by simp [g2], by simp [g2]⟩
  simp only [go_sem, seval, g2]
  refine hK _ ?_
  clear hK K
  obtain rfl := Option.some.inj hx
  exact Walk.ret ⟨by simp [g2], by simp [g2]⟩
noncomputable def ref08_limit (v1 : Int) : Option (Bool) :=
  bif decide (v1 ≥ (-1000000)) then (some (decide (v1 ≤ 1000000) : Bool)) else (some (false : Bool))
theorem ref08_limit_ok (v1 : Int) (r : Bool) (hx : ref08_limit v1 = some r) :
    ACalls Try.prog 67 [.d (.int .i64 v1)] [] (.d (.bool r)) [] := by
  refine ACalls.of_sem (n := 9) 0 [2] (fn := Try.f67) Try.func67 rfl rfl (.one rfl) rfl (by simp) (by intro i; simp only [hget]; (repeat' split) <;> simp <;> omega) ?_
  unfold ref08_limit at hx
  refine Walk.seq (Walk.region' rfl fun K hK => ?_)
  simp only [go_sem, seval]
  refine hK _ ?_
  clear hK K
  refine Walk.seq (Walk.region' rfl fun K hK => ?_)
  simp only [go_sem, seval]
  refine VGdO hx (fun g2 hx => ?_) (fun g2 hx => ?_)
  · simp only [go_sem, seval, g2]
    refine hK _ ?_
    clear hK K
    obtain rfl := Option.some.inj hx
    exact Walk.ret ⟨by simp [g2], by simp [g2]⟩
  simp only [go_sem, seval, g2]
  refine hK _ ?_
  clear hK K
  obtain rfl := Option.some.inj hx
  exact Walk.ret ⟨by simp [g2], by simp [g2]⟩
noncomputable def ref08_coef (v1 : Int) : Option (Bool) :=
  bif decide (v1 ≥ (-10000)) then (some (decide (v1 ≤ 10000) : Bool)) else (some (false : Bool))
theorem ref08_coef_ok (v1 : Int) (r : Bool) (hx : ref08_coef v1 = some r) :
    ACalls Try.prog 68 [.d (.int .i64 v1)] [] (.d (.bool r)) [] := by
  refine ACalls.of_sem (n := 9) 0 [2] (fn := Try.f68) Try.func68 rfl rfl (.one rfl) rfl (by simp) (by intro i; simp only [hget]; (repeat' split) <;> simp <;> omega) ?_
  unfold ref08_coef at hx
  refine Walk.seq (Walk.region' rfl fun K hK => ?_)
  simp only [go_sem, seval]
  refine hK _ ?_
  clear hK K
  refine Walk.seq (Walk.region' rfl fun K hK => ?_)
  simp only [go_sem, seval]
  refine VGdO hx (fun g2 hx => ?_) (fun g2 hx => ?_)
  · simp only [go_sem, seval, g2]
    refine hK _ ?_
    clear hK K
    obtain rfl := Option.some.inj hx
    exact Walk.ret ⟨by simp [g2], by simp [g2]⟩
  simp only [go_sem, seval, g2]
  refine hK _ ?_
  clear hK K
  obtain rfl := Option.some.inj hx
  exact Walk.ret ⟨by simp [g2], by simp [g2]⟩
noncomputable def ref08_Valid_l2 (v108 : Row) (v95 : Int) (v115 : Int) : Option ((Int) ⊕ ((Int) ⊕ (Bool))) :=
  bif decide (v115 < (v108.Coefs.length : Int)) then ((rd v108.Coefs v115).bind fun v118 => (ref08_coef v118).bind fun v119 => bif !v119 then (exitO (exitO (some (false : Bool)))) else (contO (IntKind.i64.wrap (v115 + 1) : Int))) else (exitO (contO (IntKind.i64.wrap (v95 + 1) : Int)))
noncomputable def ref08_Valid_l1 (v2 : List Row) (v1 : List Int) (v95 : Int) : Option ((Int) ⊕ (Bool)) :=
  bif decide (v95 < (v2.length : Int)) then ((rd v2 v95).bind fun v108 => bif decide (¬ (v108.Coefs.length : Int) = (v1.length : Int)) then (exitO (some (false : Bool))) else ((ref08_limit v108.Least).bind fun v111 => bif !v111 then (exitO (some (false : Bool))) else ((ref08_limit v108.Most).bind fun v112 => bif !v112 then (exitO (some (false : Bool))) else (iter (fun g : Int => ref08_Valid_l2 v108 v95 g) 0)))) else (exitO (some (true : Bool)))
noncomputable def ref08_Valid_l0 (v1 : List Int) (v2 : List Row) (v78 : Int) : Option ((Int) ⊕ (Bool)) :=
  bif decide (v78 < (v1.length : Int)) then ((rd v1 v78).bind fun v81 => (ref08_inside v81 10000).bind fun v82 => bif !v82 then (exitO (some (false : Bool))) else (contO (IntKind.i64.wrap (v78 + 1) : Int))) else (exitO (iter (fun g : Int => ref08_Valid_l1 v2 v1 g) 0))
noncomputable def ref08_Valid (v1 : List Int) (v2 : List Row) : Option (Bool) :=
  bif decide ((v1.length : Int) > 12) then (some (false : Bool)) else (bif decide ((v2.length : Int) > 60) then (some (false : Bool)) else (iter (fun g : Int => ref08_Valid_l0 v1 v2 g) 0))
theorem ref08_Valid_ok (v1 : List Int) (v2 : List Row) (r : Bool) (hx : ref08_Valid v1 v2 = some r) :
    ACalls Try.prog 44 [.agg [.d (.sl (List.map iD v1)), .d (.sl (List.map Row.D v2))]] [] (.d (.bool r)) [] := by
  refine ACalls.of_sem (n := 76) 0 [2] (fn := Try.f44) Try.func44 rfl rfl (.one rfl) rfl (by simp) (by intro i; simp only [hget]; (repeat' split) <;> simp <;> omega) ?_
  unfold ref08_Valid at hx
  refine Walk.seq (Walk.region' rfl fun K hK => ?_)
  simp only [go_sem, seval]
  refine hK _ ?_
  clear hK K
  refine Walk.seq (Walk.seq (Walk.region' rfl fun K hK => ?_))
  simp only [go_sem, seval]
  refine VGdO hx (fun g252 hx => ?_) (fun g252 hx => ?_)
  · simp only [go_sem, seval, g252]
    refine hK _ ?_
    clear hK K
    refine Walk.condT rfl (Walk.seq (Walk.region' rfl fun K hK => ?_))
    simp only [go_sem, seval, g252]
    refine hK _ ?_
    clear hK K
    obtain rfl := Option.some.inj hx
    exact Walk.ret ⟨by simp [g252], by simp [g252]⟩
  simp only [go_sem, seval, g252]
  refine hK _ ?_
  clear hK K
  refine Walk.condO rfl hx (fun c254 hx => ?_) (fun c254 hx => ?_)
  · refine Walk.seq (Walk.region' rfl fun K hK => ?_)
    simp only [go_sem, seval, g252, c254]
    refine hK _ ?_
    clear hK K
    obtain rfl := Option.some.inj hx
    exact Walk.ret ⟨by simp [g252, c254], by simp [g252, c254]⟩
  refine Walk.skip (Walk.seq (Walk.seq (Walk.region' rfl fun K hK => ?_)))
  simp only [go_sem, seval, g252, c254]
  refine hK _ ?_
  clear hK K
  refine Walk.block (Walk.loop ?_)
  refine Walk.weaken ⟨[(1, .box 1 0), (3, .d (.int .i64 0))], [(1, some (.box [.d (.sl (List.map iD v1)), .d (.sl (List.map Row.D v2))]))]⟩ (by simp [g252, c254] <;> omega) (by simp [g252, c254] <;> omega) ?_
  refine Walk.iter (σ := Int) (fun g => ⟨[(1, .box 1 0), (3, .d (.int .i64 g))], [(1, some (.box [.d (.sl (List.map iD v1)), .d (.sl (List.map Row.D v2))]))]⟩) (fun g : Int => ref08_Valid_l0 v1 v2 g) _ (fun v78 y513 hx ih335 hr336 => ?_) 0 hx
  unfold ref08_Valid_l0 at hx
  try dsimp only at hx ⊢
  refine Walk.seq (Walk.seq (Walk.region' rfl fun K hK => ?_))
  simp only [go_sem, seval, g252, c254]
  refine hK _ ?_
  clear hK K
  refine Walk.condO rfl hx (fun c339 hx => ?_) (fun c339 hx => ?_)
  · refine Walk.skip (Walk.seq (Walk.block (Walk.seq (Walk.region' rfl fun K hK => ?_))))
    obtain ⟨v81, r340, a341, b342, c343, hx⟩ := rd_elim hx
    obtain ⟨v82, h344, hx⟩ := bind_elim hx
    simp only [go_sem, seval, g252, c254, c339, a341, b342, c343]
    repeat refine And.intro (by first | omega | (simp; done) | (simp; omega)) ?_
    refine VCl.pure rfl (by simp only [go_sem, seval, g252, c254, c339, a341, b342, c343]; try simp) (ref08_inside_ok v81 10000 _ h344) (by simp only [go_sem, seval, g252, c254, c339, a341, b342, c343]; try simp) (by simp only [go_sem, seval, g252, c254, c339, a341, b342, c343]; try simp) (by simp only [go_sem, seval, g252, c254, c339, a341, b342, c343]; try simp) (by simp only [go_sem, seval, g252, c254, c339, a341, b342, c343]; try simp) (by simp only [go_sem, seval, g252, c254, c339, a341, b342, c343]; try simp) (by simp only [go_sem, seval, g252, c254, c339, a341, b342, c343]; try simp) ?_
    simp only [go_sem, seval, g252, c254, c339, a341, b342, c343]
    refine hK _ ?_
    clear hK K
    refine Walk.condO rfl hx (fun c345 hx => ?_) (fun c345 hx => ?_)
    · refine Walk.seq (Walk.region' rfl fun K hK => ?_)
      simp only [go_sem, seval, g252, c254, c339, a341, b342, c343, c345]
      refine hK _ ?_
      clear hK K
      obtain ⟨z346, e347, hx⟩ := exit_elim hx
      rw [hr336 z346 e347] at hx
      obtain rfl := Option.some.inj hx
      exact Walk.ret ⟨by simp [g252, c254, c339, a341, b342, c343, c345], by simp [g252, c254, c339, a341, b342, c343, c345]⟩
    refine Walk.skip (Walk.inBlock (Walk.region' rfl fun K hK => ?_))
    simp only [go_sem, seval, g252, c254, c339, a341, b342, c343, c345]
    refine hK _ ?_
    clear hK K
    exact Walk.weaken _ (by simp [g252, c254, c339, a341, b342, c343, c345] <;> omega) (by simp [g252, c254, c339, a341, b342, c343, c345] <;> omega) (ih335 _ (cont_elim hx))
  refine Walk.exit rfl ?_
  obtain ⟨z348, e349, hx⟩ := exit_elim hx
  rw [hr336 z348 e349] at hx
  refine Walk.seq (Walk.seq (Walk.region' rfl fun K hK => ?_))
  simp only [go_sem, seval, g252, c254, c339]
  refine hK _ ?_
  clear hK K
  refine Walk.block (Walk.loop ?_)
  refine Walk.weaken ⟨[(1, .box 1 0), (4, .d (.int .i64 0))], [(1, some (.box [.d (.sl (List.map iD v1)), .d (.sl (List.map Row.D v2))]))]⟩ (by simp [g252, c254, c339] <;> omega) (by simp [g252, c254, c339] <;> omega) ?_
  refine Walk.iter (σ := Int) (fun g => ⟨[(1, .box 1 0), (4, .d (.int .i64 g))], [(1, some (.box [.d (.sl (List.map iD v1)), .d (.sl (List.map Row.D v2))]))]⟩) (fun g : Int => ref08_Valid_l1 v2 v1 g) _ (fun v95 y512 hx ih448 hr449 => ?_) 0 hx
  unfold ref08_Valid_l1 at hx
  try dsimp only at hx ⊢
  refine Walk.seq (Walk.seq (Walk.region' rfl fun K hK => ?_))
  simp only [go_sem, seval, g252, c254, c339]
  refine hK _ ?_
  clear hK K
  refine Walk.condO rfl hx (fun c452 hx => ?_) (fun c452 hx => ?_)
  · refine Walk.skip (Walk.seq (Walk.block (Walk.seq (Walk.region' rfl fun K hK => ?_))))
    obtain ⟨v108, r453, a454, b455, c456, hx⟩ := rd_elim hx
    simp only [go_sem, seval, g252, c254, c339, c452, a454, b455, c456]
    repeat refine And.intro (by first | omega | (simp; done) | (simp; omega)) ?_
    refine hK _ ?_
    clear hK K
    refine Walk.seq (Walk.seq (Walk.region' rfl fun K hK => ?_))
    simp only [go_sem, seval, g252, c254, c339, c452, a454, b455, c456]
    refine VGdO hx (fun g462 hx => ?_) (fun g462 hx => ?_)
    · simp only [go_sem, seval, g252, c254, c339, c452, a454, b455, c456, g462]
      refine hK _ ?_
      clear hK K
      refine Walk.condT rfl (Walk.seq (Walk.region' rfl fun K hK => ?_))
      simp only [go_sem, seval, g252, c254, c339, c452, a454, b455, c456, g462]
      refine hK _ ?_
      clear hK K
      obtain ⟨z463, e464, hx⟩ := exit_elim hx
      rw [hr449 z463 e464] at hx
      obtain rfl := Option.some.inj hx
      exact Walk.ret ⟨by simp [g252, c254, c339, c452, a454, b455, c456, g462], by simp [g252, c254, c339, c452, a454, b455, c456, g462]⟩
    obtain ⟨v111, h465, hx⟩ := bind_elim hx
    simp only [go_sem, seval, g252, c254, c339, c452, a454, b455, c456, g462]
    refine VCl.pure rfl (by simp only [go_sem, seval, g252, c254, c339, c452, a454, b455, c456, g462]; try simp) (ref08_limit_ok v108.Least _ h465) (by simp only [go_sem, seval, g252, c254, c339, c452, a454, b455, c456, g462]; try simp) (by simp only [go_sem, seval, g252, c254, c339, c452, a454, b455, c456, g462]; try simp) (by simp only [go_sem, seval, g252, c254, c339, c452, a454, b455, c456, g462]; try simp) (by simp only [go_sem, seval, g252, c254, c339, c452, a454, b455, c456, g462]; try simp) (by simp only [go_sem, seval, g252, c254, c339, c452, a454, b455, c456, g462]; try simp) (by simp only [go_sem, seval, g252, c254, c339, c452, a454, b455, c456, g462]; try simp) ?_
    simp only [go_sem, seval, g252, c254, c339, c452, a454, b455, c456, g462]
    refine VGdO hx (fun g466 hx => ?_) (fun g466 hx => ?_)
    · simp only [go_sem, seval, g252, c254, c339, c452, a454, b455, c456, g462, g466]
      refine hK _ ?_
      clear hK K
      refine Walk.condT rfl (Walk.seq (Walk.region' rfl fun K hK => ?_))
      simp only [go_sem, seval, g252, c254, c339, c452, a454, b455, c456, g462, g466]
      refine hK _ ?_
      clear hK K
      obtain ⟨z467, e468, hx⟩ := exit_elim hx
      rw [hr449 z467 e468] at hx
      obtain rfl := Option.some.inj hx
      exact Walk.ret ⟨by simp [g252, c254, c339, c452, a454, b455, c456, g462, g466], by simp [g252, c254, c339, c452, a454, b455, c456, g462, g466]⟩
    obtain ⟨v112, h469, hx⟩ := bind_elim hx
    simp only [go_sem, seval, g252, c254, c339, c452, a454, b455, c456, g462, g466]
    refine VCl.pure rfl (by simp only [go_sem, seval, g252, c254, c339, c452, a454, b455, c456, g462, g466]; try simp) (ref08_limit_ok v108.Most _ h469) (by simp only [go_sem, seval, g252, c254, c339, c452, a454, b455, c456, g462, g466]; try simp) (by simp only [go_sem, seval, g252, c254, c339, c452, a454, b455, c456, g462, g466]; try simp) (by simp only [go_sem, seval, g252, c254, c339, c452, a454, b455, c456, g462, g466]; try simp) (by simp only [go_sem, seval, g252, c254, c339, c452, a454, b455, c456, g462, g466]; try simp) (by simp only [go_sem, seval, g252, c254, c339, c452, a454, b455, c456, g462, g466]; try simp) (by simp only [go_sem, seval, g252, c254, c339, c452, a454, b455, c456, g462, g466]; try simp) ?_
    simp only [go_sem, seval, g252, c254, c339, c452, a454, b455, c456, g462, g466]
    refine hK _ ?_
    clear hK K
    refine Walk.condO rfl hx (fun c471 hx => ?_) (fun c471 hx => ?_)
    · refine Walk.seq (Walk.region' rfl fun K hK => ?_)
      simp only [go_sem, seval, g252, c254, c339, c452, a454, b455, c456, g462, g466, c471]
      refine hK _ ?_
      clear hK K
      obtain ⟨z472, e473, hx⟩ := exit_elim hx
      rw [hr449 z472 e473] at hx
      obtain rfl := Option.some.inj hx
      exact Walk.ret ⟨by simp [g252, c254, c339, c452, a454, b455, c456, g462, g466, c471], by simp [g252, c254, c339, c452, a454, b455, c456, g462, g466, c471]⟩
    refine Walk.skip (Walk.seq (Walk.region' rfl fun K hK => ?_))
    simp only [go_sem, seval, g252, c254, c339, c452, a454, b455, c456, g462, g466, c471]
    refine hK _ ?_
    clear hK K
    refine Walk.block (Walk.loop ?_)
    refine Walk.weaken ⟨[(1, .box 1 0), (4, .d (.int .i64 v95)), (5, .box 5 0), (6, .d (.int .i64 0))], [(1, some (.box [.d (.sl (List.map iD v1)), .d (.sl (List.map Row.D v2))])), (5, some (.box [.d (.sl (List.map iD v108.Coefs)), .d (.int .i64 v108.Least), .d (.int .i64 v108.Most)]))]⟩ (by simp [g252, c254, c339, c452, a454, b455, c456, g462, g466, c471] <;> omega) (by simp [g252, c254, c339, c452, a454, b455, c456, g462, g466, c471] <;> omega) ?_
    refine Walk.iter (σ := Int) (fun g => ⟨[(1, .box 1 0), (4, .d (.int .i64 v95)), (5, .box 5 0), (6, .d (.int .i64 g))], [(1, some (.box [.d (.sl (List.map iD v1)), .d (.sl (List.map Row.D v2))])), (5, some (.box [.d (.sl (List.map iD v108.Coefs)), .d (.int .i64 v108.Least), .d (.int .i64 v108.Most)]))]⟩) (fun g : Int => ref08_Valid_l2 v108 v95 g) _ (fun v115 y509 hx ih492 hr493 => ?_) 0 hx
    unfold ref08_Valid_l2 at hx
    try dsimp only at hx ⊢
    refine Walk.seq (Walk.seq (Walk.region' rfl fun K hK => ?_))
    simp only [go_sem, seval, g252, c254, c339, c452, a454, b455, c456, g462, g466, c471]
    refine hK _ ?_
    clear hK K
    refine Walk.condO rfl hx (fun c496 hx => ?_) (fun c496 hx => ?_)
    · refine Walk.skip (Walk.seq (Walk.block (Walk.seq (Walk.region' rfl fun K hK => ?_))))
      obtain ⟨v118, r497, a498, b499, c500, hx⟩ := rd_elim hx
      obtain ⟨v119, h501, hx⟩ := bind_elim hx
      simp only [go_sem, seval, g252, c254, c339, c452, a454, b455, c456, g462, g466, c471, c496, a498, b499, c500]
      repeat refine And.intro (by first | omega | (simp; done) | (simp; omega)) ?_
      refine VCl.pure rfl (by simp only [go_sem, seval, g252, c254, c339, c452, a454, b455, c456, g462, g466, c471, c496, a498, b499, c500]; try simp) (ref08_coef_ok v118 _ h501) (by simp only [go_sem, seval, g252, c254, c339, c452, a454, b455, c456, g462, g466, c471, c496, a498, b499, c500]; try simp) (by simp only [go_sem, seval, g252, c254, c339, c452, a454, b455, c456, g462, g466, c471, c496, a498, b499, c500]; try simp) (by simp only [go_sem, seval, g252, c254, c339, c452, a454, b455, c456, g462, g466, c471, c496, a498, b499, c500]; try simp) (by simp only [go_sem, seval, g252, c254, c339, c452, a454, b455, c456, g462, g466, c471, c496, a498, b499, c500]; try simp) (by simp only [go_sem, seval, g252, c254, c339, c452, a454, b455, c456, g462, g466, c471, c496, a498, b499, c500]; try simp) (by simp only [go_sem, seval, g252, c254, c339, c452, a454, b455, c456, g462, g466, c471, c496, a498, b499, c500]; try simp) ?_
      simp only [go_sem, seval, g252, c254, c339, c452, a454, b455, c456, g462, g466, c471, c496, a498, b499, c500]
      refine hK _ ?_
      clear hK K
      refine Walk.condO rfl hx (fun c502 hx => ?_) (fun c502 hx => ?_)
      · refine Walk.seq (Walk.region' rfl fun K hK => ?_)
        simp only [go_sem, seval, g252, c254, c339, c452, a454, b455, c456, g462, g466, c471, c496, a498, b499, c500, c502]
        refine hK _ ?_
        clear hK K
        obtain ⟨z503, e504, hx⟩ := exit_elim hx
        rw [hr493 z503 e504] at hx
        obtain ⟨z505, e506, hx⟩ := exit_elim hx
        rw [hr449 z505 e506] at hx
        obtain rfl := Option.some.inj hx
        exact Walk.ret ⟨by simp [g252, c254, c339, c452, a454, b455, c456, g462, g466, c471, c496, a498, b499, c500, c502], by simp [g252, c254, c339, c452, a454, b455, c456, g462, g466, c471, c496, a498, b499, c500, c502]⟩
      refine Walk.skip (Walk.inBlock (Walk.region' rfl fun K hK => ?_))
      simp only [go_sem, seval, g252, c254, c339, c452, a454, b455, c456, g462, g466, c471, c496, a498, b499, c500, c502]
      refine hK _ ?_
      clear hK K
      exact Walk.weaken _ (by simp [g252, c254, c339, c452, a454, b455, c456, g462, g466, c471, c496, a498, b499, c500, c502] <;> omega) (by simp [g252, c254, c339, c452, a454, b455, c456, g462, g466, c471, c496, a498, b499, c500, c502] <;> omega) (ih492 _ (cont_elim hx))
    refine Walk.exit rfl ?_
    obtain ⟨z507, e508, hx⟩ := exit_elim hx
    rw [hr493 z507 e508] at hx
    refine Walk.inBlock (Walk.region' rfl fun K hK => ?_)
    simp only [go_sem, seval, g252, c254, c339, c452, a454, b455, c456, g462, g466, c471, c496]
    refine hK _ ?_
    clear hK K
    exact Walk.weaken _ (by simp [g252, c254, c339, c452, a454, b455, c456, g462, g466, c471, c496] <;> omega) (by simp [g252, c254, c339, c452, a454, b455, c456, g462, g466, c471, c496] <;> omega) (ih448 _ (cont_elim hx))
  refine Walk.exit rfl ?_
  obtain ⟨z510, e511, hx⟩ := exit_elim hx
  rw [hr449 z510 e511] at hx
  refine Walk.seq (Walk.region' rfl fun K hK => ?_)
  simp only [go_sem, seval, g252, c254, c339, c452]
  refine hK _ ?_
  clear hK K
  obtain rfl := Option.some.inj hx
  exact Walk.ret ⟨by simp [g252, c254, c339, c452], by simp [g252, c254, c339, c452]⟩
noncomputable def ref08_State_l0 (v1 : Int) (v2 : List Int) (v9 : Int) : Option ((Int) ⊕ (Bool)) :=
  bif decide (v9 < v1) then ((rd v2 v9).bind fun v11 => bif decide (v11 < (-1)) then (exitO (some (false : Bool))) else (bif decide (v11 > 1) then (exitO (some (false : Bool))) else (contO (IntKind.i64.wrap (v9 + 1) : Int)))) else (exitO (some (true : Bool)))
noncomputable def ref08_State (v1 : Int) (v2 : List Int) : Option (Bool) :=
  bif decide (¬ (v2.length : Int) = v1) then (some (false : Bool)) else (iter (fun g : Int => ref08_State_l0 v1 v2 g) 0)
theorem ref08_State_ok (v1 : Int) (v2 : List Int) (r : Bool) (hx : ref08_State v1 v2 = some r) :
    ACalls Try.prog 45 [.d (.int .i64 v1), .d (.sl (List.map iD v2))] [] (.d (.bool r)) [] := by
  refine ACalls.of_sem (n := 27) 0 [4] (fn := Try.f45) Try.func45 rfl rfl (.one rfl) rfl (by simp) (by intro i; simp only [hget]; (repeat' split) <;> simp <;> omega) ?_
  unfold ref08_State at hx
  refine Walk.seq (Walk.region' rfl fun K hK => ?_)
  simp only [go_sem, seval]
  refine hK _ ?_
  clear hK K
  refine Walk.seq (Walk.seq (Walk.region' rfl fun K hK => ?_))
  simp only [go_sem, seval]
  refine hK _ ?_
  clear hK K
  refine Walk.condO rfl hx (fun c37 hx => ?_) (fun c37 hx => ?_)
  · refine Walk.seq (Walk.region' rfl fun K hK => ?_)
    simp only [go_sem, seval, c37]
    refine hK _ ?_
    clear hK K
    obtain rfl := Option.some.inj hx
    exact Walk.ret ⟨by simp [c37], by simp [c37]⟩
  refine Walk.skip (Walk.seq (Walk.seq (Walk.region' rfl fun K hK => ?_)))
  simp only [go_sem, seval, c37]
  refine hK _ ?_
  clear hK K
  refine Walk.block (Walk.loop ?_)
  refine Walk.weaken ⟨[(0, .d (.int .i64 v1)), (1, .d (.sl (List.map iD v2))), (5, .d (.int .i64 0))], []⟩ (by simp [c37] <;> omega) (by simp [c37] <;> omega) ?_
  refine Walk.iter (σ := Int) (fun g => ⟨[(0, .d (.int .i64 v1)), (1, .d (.sl (List.map iD v2))), (5, .d (.int .i64 g))], []⟩) (fun g : Int => ref08_State_l0 v1 v2 g) _ (fun v9 y73 hx ih56 hr57 => ?_) 0 hx
  unfold ref08_State_l0 at hx
  try dsimp only at hx ⊢
  refine Walk.seq (Walk.seq (Walk.region' rfl fun K hK => ?_))
  simp only [go_sem, seval, c37]
  refine hK _ ?_
  clear hK K
  refine Walk.condO rfl hx (fun c60 hx => ?_) (fun c60 hx => ?_)
  · refine Walk.skip (Walk.seq (Walk.block (Walk.seq (Walk.region' rfl fun K hK => ?_))))
    obtain ⟨v11, r61, a62, b63, c64, hx⟩ := rd_elim hx
    simp only [go_sem, seval, c37, c60, a62, b63, c64]
    repeat refine And.intro (by first | omega | (simp; done) | (simp; omega)) ?_
    refine VGdO hx (fun g65 hx => ?_) (fun g65 hx => ?_)
    · simp only [go_sem, seval, c37, c60, a62, b63, c64, g65]
      refine hK _ ?_
      clear hK K
      refine Walk.condT rfl (Walk.seq (Walk.region' rfl fun K hK => ?_))
      simp only [go_sem, seval, c37, c60, a62, b63, c64, g65]
      refine hK _ ?_
      clear hK K
      obtain ⟨z66, e67, hx⟩ := exit_elim hx
      rw [hr57 z66 e67] at hx
      obtain rfl := Option.some.inj hx
      exact Walk.ret ⟨by simp [c37, c60, a62, b63, c64, g65], by simp [c37, c60, a62, b63, c64, g65]⟩
    simp only [go_sem, seval, c37, c60, a62, b63, c64, g65]
    repeat refine And.intro (by first | omega | (simp; done) | (simp; omega)) ?_
    refine hK _ ?_
    clear hK K
    refine Walk.condO rfl hx (fun c68 hx => ?_) (fun c68 hx => ?_)
    · refine Walk.seq (Walk.region' rfl fun K hK => ?_)
      simp only [go_sem, seval, c37, c60, a62, b63, c64, g65, c68]
      refine hK _ ?_
      clear hK K
      obtain ⟨z69, e70, hx⟩ := exit_elim hx
      rw [hr57 z69 e70] at hx
      obtain rfl := Option.some.inj hx
      exact Walk.ret ⟨by simp [c37, c60, a62, b63, c64, g65, c68], by simp [c37, c60, a62, b63, c64, g65, c68]⟩
    refine Walk.skip (Walk.inBlock (Walk.region' rfl fun K hK => ?_))
    simp only [go_sem, seval, c37, c60, a62, b63, c64, g65, c68]
    refine hK _ ?_
    clear hK K
    exact Walk.weaken _ (by simp [c37, c60, a62, b63, c64, g65, c68] <;> omega) (by simp [c37, c60, a62, b63, c64, g65, c68] <;> omega) (ih56 _ (cont_elim hx))
  refine Walk.exit rfl ?_
  obtain ⟨z71, e72, hx⟩ := exit_elim hx
  rw [hr57 z71 e72] at hx
  refine Walk.seq (Walk.region' rfl fun K hK => ?_)
  simp only [go_sem, seval, c37, c60]
  refine hK _ ?_
  clear hK K
  obtain rfl := Option.some.inj hx
  exact Walk.ret ⟨by simp [c37, c60], by simp [c37, c60]⟩
end Go.AX

