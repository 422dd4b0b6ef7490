import Derived.Test.YtebcedhhcpibpaaE3
set_option linter.unusedVariables false
set_option linter.unusedSimpArgs false
set_option maxRecDepth 20000
set_option maxHeartbeats 4000000
namespace Go.AX
open Go.Proofs
attribute [local simp] spl_len take_snoc take_cons_drop cons_rep cons_tail iA bA take_set_len idsL_rep idsL_iA idsL_bA idsL_sA idsL_set_mem idsL_sub sA_def List.map_replicate frVs_setS frVs_self frV_arr take_map_len subE subH eget hget upE upV upH upO_refl upO_box upVs freshE freshH freshO AV.ids AV.idsL ids_box ids_arr ids_pre idsL_room frE frV_refl frV_arr frH frO_refl frO_box frVs newOk evalA AV.viewXs AV.viewX AV.viewXP AV.viewXPs AV.viewPs AV.viewP AV.flat AV.flatL D.flat arrsOnly flatObjs newNames subOf closedIn allSome dstOk newOrOld avD avDp zv_i64 zv_u8 zv_bool zv_nils zv_nilp zv_str retAV aLoad cut TI.isAgg nlE nlH nlO_refl nlO_box nlVs nlV_refl nlV_nil iD uD bD tD lD List.map_set ti1 ti2 ti3 ti4 ti5 ti6 ti7 ti8 ti9 ti10 ti11 ti12 ti13 ti14 ti15 ti16 ti17 ti18 ti19 ti21 ti22 ti23 ti24 ti25 ti26 ti27 ti28 ti29 ti30 ti32 ti33 ti34 ti35 ti36 ti37 ti38 ti40 ti41 ti42 ti43 ti44 ti45 ti46 ti47 ti48 ti49 ti50 ti51 ti52 ti54 ti55 ti56 ti57 ti58 ti59 ti61 ti62 ti63 ti64 ti65 ti66 ti67 ti68 ti69 ti70 ti72 ti73 ti74 ti75 ti76 ti77 ti78 ti79 ti80 ti81 ti82 ti83 ti84 ti85 ti86 ti87 ti89 ti91 ti92 ti93 ti94 ti95 ti96 ti97 ti98 ti99 ti100 ti101 ti103 ti105 ti106 ti107 ti108 ti109 ti110 ti111 ti112 ti113 ti114 ti115 ti117 ti118 ti120 ti121 ti122 ti123 ti124 ti125 ti126 ti127 ti128 ti129 ti130 ti131 ti132 ti133 ti134 ti135 ti136 ti137 ti138 ti139 ti140 Row.D Node.D Part.D TItem.D Ref.D
attribute [local go_sem] V1_none V1_some V_nil V_move V_assign V_pick V_bin V_un V_extract V_makeFunc V_convert V_nilCheck V_fieldAddr V_field V_load V_store V_indexAddr V_index V_slice V_slice0 V_alloc V_box V_build V_buildSlice V_makeSlice V_len V_min V_max V_append V_copy V_call V_guard VGs_some VG_tt VG_ff VG_tf VG_ft VG_u gslot ok fail po so aNew dstOk freshU addLog_none' addLog_some' St.step putL evalA eget hget argE freshE freshO freshH AV.ids AV.idsL AV.ok1 AV.cells ids_box ids_arr liveBox liveArr isArr isObj isBoxB aPick isNilC aNilEq aBin aUn aExtract aMakeFunc aConvert aNilCheck aFieldAddr aField cut aLen aIndexAddr aMin aMax aIndex bnd isInt aSlice aSlice0 aLoad aAlloc aBox aStore splice aMake aMakeBox aCopy cellsOf cellsOfP updIds newIds zv_i64 zv_u8 zv_bool zv_nils zv_nilp cond_bool cond_int TI.isAgg TK.isSl TK.el okL avDps avDp avD List.map_cons List.map_nil List.append_nil List.nil_append List.cons_append List.length_cons List.length_nil List.take_succ_cons List.take_zero List.drop_succ_cons List.drop_zero List.take_nil List.drop_nil List.headD_cons List.getD_cons_zero List.getD_cons_succ List.mem_cons List.not_mem_nil List.getElem?_cons_zero List.getElem?_cons_succ List.toList_toArray Option.getD_some Option.getD_none Option.bind_some Option.bind_none Option.map_some Option.map_none Option.getD Option.toList Nat.zero_add Nat.add_zero Nat.zero_le Nat.le_refl if_true if_false ite_self true_and and_true false_and and_false true_or or_true false_or or_false not_true_eq_false not_false_eq_true ne_eq cond_true cond_false Bool.true_eq_false Bool.false_eq_true forall_const decide_true decide_false implies_true true_implies and_self or_self Nat.succ_ne_zero Int.toNat_natCast Int.natCast_nonneg List.length_map decide_eq_true_eq AV.views AV.view AV.viewPs AV.viewP arrsOnly newNames List.length_append List.append_assoc Bool.not_true Bool.not_false AV.ok2 aBuild fillR fillP aBuildSlice dense elP aAppend esOf esOfP List.forall_mem_cons forall_eq_or_imp forall_eq zD zDp map_take' map_drop' iD uD bD tD lD iD_len uD_len bD_len tD_len lD_len LB Int.cast_ofNat_Int Int.natCast_zero Int.natCast_one head_len all_len List.head?_cons List.head?_nil Bool.not_not eq_self List.take_length zv_str aConv byteOf isByte map_bcell bytes_all str_map cellsEq cellsP AV.kd Bool.and_true Bool.true_and Bool.and_false Bool.false_and spl_map spl_len mkbox_i mkbox_b flat_iD dataL_iA dataL_bA zv_u64 flat_iD' flat_len dataL_tA dataL_ttA spl_mt spl_mtt mkbox_s splice_one take_cons_drop cons_rep cons_tail hd_set hd_set0 List.length_replicate iA bA sA_def List.set_set List.length_set idsL_iA idsL_bA idsL_sA idsL_setE idsL_rep List.append_eq Nat.mul_one ids_pre idsL_room appBox_full appBox_room pre_iA one_iD List.flatten_cons List.flatten_nil ti1 ti2 ti3 ti4 ti5 ti6 ti7 ti8 ti9 ti10 ti11 ti12 ti13 ti14 ti15 ti16 ti17 ti18 ti19 ti21 ti22 ti23 ti24 ti25 ti26 ti27 ti28 ti29 ti30 ti32 ti33 ti34 ti35 ti36 ti37 ti38 ti40 ti41 ti42 ti43 ti44 ti45 ti46 ti47 ti48 ti49 ti50 ti51 ti52 ti54 ti55 ti56 ti57 ti58 ti59 ti61 ti62 ti63 ti64 ti65 ti66 ti67 ti68 ti69 ti70 ti72 ti73 ti74 ti75 ti76 ti77 ti78 ti79 ti80 ti81 ti82 ti83 ti84 ti85 ti86 ti87 ti89 ti91 ti92 ti93 ti94 ti95 ti96 ti97 ti98 ti99 ti100 ti101 ti103 ti105 ti106 ti107 ti108 ti109 ti110 ti111 ti112 ti113 ti114 ti115 ti117 ti118 ti120 ti121 ti122 ti123 ti124 ti125 ti126 ti127 ti128 ti129 ti130 ti131 ti132 ti133 ti134 ti135 ti136 ti137 ti138 ti139 ti140 Row.D Node.D Part.D TItem.D Ref.D Row.D_len Node.D_len Part.D_len TItem.D_len Ref.D_len zs_ zs_48_49_50_51_52_53_54_55_56_57_48_49_50_51_52_53_54_55_56_57_48_49_50_51_52_53_54_55_56_57_48_49_50_51_52_53_54_55_56_57_120 zs_113 zs_116_97_98_9 eqf74_00
noncomputable def ref06_Ints_l0 (v1 : List Int) (v2 : List Int) (v13 : Int) : Option ((Int) ⊕ (Bool)) :=
  bif decide (v13 < (v1.length : Int)) then ((rd v1 v13).bind fun v16 => (rd v2 v13).bind fun v17 => bif decide (¬ v16 = v17) then (exitO (some (false : Bool))) else (contO (IntKind.i64.wrap (v13 + 1) : Int))) else (exitO (some (true : Bool)))
noncomputable def ref06_Ints (v1 : List Int) (v2 : List Int) : Option (Bool) :=
  bif decide (¬ (v1.length : Int) = (v2.length : Int)) then (some (false : Bool)) else (iter (fun g : Int => ref06_Ints_l0 v1 v2 g) 0)
theorem ref06_Ints_ok (v1 : List Int) (v2 : List Int) (r : Bool) (hx : ref06_Ints v1 v2 = some r) :
    ACalls Try.prog 15 [.d (.sl (List.map iD v1)), .d (.sl (List.map iD v2))] [] (.d (.bool r)) [] := by
  refine ACalls.of_sem (n := 26) 0 [4] (fn := Try.f15) Try.func15 rfl rfl (.one rfl) rfl (by simp) (by intro i; simp only [hget]; (repeat' split) <;> simp <;> omega) ?_
  unfold ref06_Ints at hx
  refine Walk.seq (Walk.region' rfl fun K hK => ?_)
  simp only [go_sem, seval]
  refine hK _ ?_
  clear hK K
  refine Walk.seq (Walk.seq (Walk.region' rfl fun K hK => ?_))
  simp only [go_sem, seval]
  refine hK _ ?_
  clear hK K
  refine Walk.condO rfl hx (fun c46 hx => ?_) (fun c46 hx => ?_)
  · refine Walk.seq (Walk.region' rfl fun K hK => ?_)
    simp only [go_sem, seval, c46]
    refine hK _ ?_
    clear hK K
    obtain rfl := Option.some.inj hx
    exact Walk.ret ⟨by simp [c46], by simp [c46]⟩
  refine Walk.skip (Walk.seq (Walk.seq (Walk.region' rfl fun K hK => ?_)))
  simp only [go_sem, seval, c46]
  refine hK _ ?_
  clear hK K
  refine Walk.block (Walk.loop ?_)
  refine Walk.weaken ⟨[(0, .d (.sl (List.map iD v1))), (1, .d (.sl (List.map iD v2))), (5, .d (.int .i64 0))], []⟩ (by simp [c46] <;> omega) (by simp [c46] <;> omega) ?_
  refine Walk.iter (σ := Int) (fun g => ⟨[(0, .d (.sl (List.map iD v1))), (1, .d (.sl (List.map iD v2))), (5, .d (.int .i64 g))], []⟩) (fun g : Int => ref06_Ints_l0 v1 v2 g) _ (fun v13 y89 hx ih71 hr72 => ?_) 0 hx
  unfold ref06_Ints_l0 at hx
  try dsimp only at hx ⊢
  refine Walk.seq (Walk.seq (Walk.region' rfl fun K hK => ?_))
  simp only [go_sem, seval, c46]
  refine hK _ ?_
  clear hK K
  refine Walk.condO rfl hx (fun c75 hx => ?_) (fun c75 hx => ?_)
  · refine Walk.skip (Walk.seq (Walk.block (Walk.seq (Walk.drawn' rfl mixed fun K hK => ?_))))
    obtain ⟨v16, r76, a77, b78, c79, hx⟩ := rd_elim hx
    obtain ⟨v17, r80, a81, b82, c83, hx⟩ := rd_elim hx
    simp only [go_sem, seval, c46, c75, a77, b78, c79, a81, b82, c83]
    repeat refine And.intro (by first | omega | (simp; done) | (simp; omega)) ?_
    refine hK _ _ (by kernel_rfl) (by simp [c46, c75, a77, b78, c79, a81, b82, c83]) ?_
    clear hK K
    refine Walk.condO rfl hx (fun c84 hx => ?_) (fun c84 hx => ?_)
    · refine Walk.seq (Walk.region' rfl fun K hK => ?_)
      simp only [go_sem, seval, c46, c75, a77, b78, c79, a81, b82, c83, c84]
      refine hK _ ?_
      clear hK K
      obtain ⟨z85, e86, hx⟩ := exit_elim hx
      rw [hr72 z85 e86] at hx
      obtain rfl := Option.some.inj hx
      exact Walk.ret ⟨by simp [c46, c75, a77, b78, c79, a81, b82, c83, c84], by simp [c46, c75, a77, b78, c79, a81, b82, c83, c84]⟩
    refine Walk.skip (Walk.inBlock (Walk.region' rfl fun K hK => ?_))
    simp only [go_sem, seval, c46, c75, a77, b78, c79, a81, b82, c83, c84]
    refine hK _ ?_
    clear hK K
    exact Walk.weaken _ (by simp [c46, c75, a77, b78, c79, a81, b82, c83, c84] <;> omega) (by simp [c46, c75, a77, b78, c79, a81, b82, c83, c84] <;> omega) (ih71 _ (cont_elim hx))
  refine Walk.exit rfl ?_
  obtain ⟨z87, e88, hx⟩ := exit_elim hx
  rw [hr72 z87 e88] at hx
  refine Walk.seq (Walk.region' rfl fun K hK => ?_)
  simp only [go_sem, seval, c46, c75]
  refine hK _ ?_
  clear hK K
  obtain rfl := Option.some.inj hx
  exact Walk.ret ⟨by simp [c46, c75], by simp [c46, c75]⟩
noncomputable def blueprint_ascending_l0 (v1 : List Int) (v8 : Int) : Option ((Int) ⊕ (Bool)) :=
  bif decide (v8 < (v1.length : Int)) then (bif decide (v8 > 0) then ((rd v1 (IntKind.i64.wrap (v8 - 1))).bind fun v11 => (rd v1 v8).bind fun v12 => bif decide (v11 ≥ v12) then (exitO (some (false : Bool))) else (contO (IntKind.i64.wrap (v8 + 1) : Int))) else (contO (IntKind.i64.wrap (v8 + 1) : Int))) else (exitO (some (true : Bool)))
noncomputable def blueprint_ascending (v1 : List Int) : Option (Bool) :=
  iter (fun g : Int => blueprint_ascending_l0 v1 g) 0
theorem blueprint_ascending_ok (v1 : List Int) (r : Bool) (hx : blueprint_ascending v1 = some r) :
    ACalls Try.prog 70 [.d (.sl (List.map iD v1))] [] (.d (.bool r)) [] := by
  refine ACalls.of_sem (n := 24) 0 [2] (fn := Try.f70) Try.func70 rfl rfl (.one rfl) rfl (by simp) (by intro i; simp only [hget]; (repeat' split) <;> simp <;> omega) ?_
  unfold blueprint_ascending at hx
  refine Walk.seq (Walk.region' rfl fun K hK => ?_)
  simp only [go_sem, seval]
  refine hK _ ?_
  clear hK K
  refine Walk.seq (Walk.seq (Walk.region' rfl fun K hK => ?_))
  simp only [go_sem, seval]
  refine hK _ ?_
  clear hK K
  refine Walk.block (Walk.loop ?_)
  refine Walk.weaken ⟨[(0, .d (.sl (List.map iD v1))), (5, .d (.int .i64 (v1.length : Int))), (6, .d (.int .i64 0))], []⟩ (by simp <;> omega) (by simp <;> omega) ?_
  refine Walk.iter (σ := Int) (fun g => ⟨[(0, .d (.sl (List.map iD v1))), (5, .d (.int .i64 (v1.length : Int))), (6, .d (.int .i64 g))], []⟩) (fun g : Int => blueprint_ascending_l0 v1 g) _ (fun v8 y63 hx ih45 hr46 => ?_) 0 hx
  unfold blueprint_ascending_l0 at hx
  try dsimp only at hx ⊢
  refine Walk.seq (Walk.region' rfl fun K hK => ?_)
  simp only [go_sem, seval]
  refine hK _ ?_
  clear hK K
  refine Walk.seq (Walk.condO rfl hx (fun c48 hx => ?_) (fun c48 hx => ?_))
  · refine Walk.skip (Walk.seq (Walk.block (Walk.seq (Walk.region' rfl fun K hK => ?_))))
    simp only [go_sem, seval, c48]
    refine hK _ ?_
    clear hK K
    refine Walk.seq (Walk.drawn' rfl mixed fun K hK => ?_)
    simp only [go_sem, seval, c48]
    refine VGdO hx (fun g49 hx => ?_) (fun g49 hx => ?_)
    · obtain ⟨v11, r50, a51, b52, c53, hx⟩ := rd_elim hx
      obtain ⟨v12, r54, a55, b56, c57, hx⟩ := rd_elim hx
      simp only [go_sem, seval, c48, g49, a51, b52, c53, a55, b56, c57]
      repeat refine And.intro (by first | omega | (simp; done) | (simp; omega)) ?_
      refine hK _ _ (by kernel_rfl) (by simp [c48, g49, a51, b52, c53, a55, b56, c57]) ?_
      clear hK K
      refine Walk.condO rfl hx (fun c58 hx => ?_) (fun c58 hx => ?_)
      · refine Walk.seq (Walk.region' rfl fun K hK => ?_)
        simp only [go_sem, seval, c48, g49, a51, b52, c53, a55, b56, c57, c58]
        refine hK _ ?_
        clear hK K
        obtain ⟨z59, e60, hx⟩ := exit_elim hx
        rw [hr46 z59 e60] at hx
        obtain rfl := Option.some.inj hx
        exact Walk.ret ⟨by simp [c48, g49, a51, b52, c53, a55, b56, c57, c58], by simp [c48, g49, a51, b52, c53, a55, b56, c57, c58]⟩
      refine Walk.skip (Walk.inBlock (Walk.region' rfl fun K hK => ?_))
      simp only [go_sem, seval, c48, g49, a51, b52, c53, a55, b56, c57, c58]
      refine hK _ ?_
      clear hK K
      exact Walk.weaken _ (by simp [c48, g49, a51, b52, c53, a55, b56, c57, c58] <;> omega) (by simp [c48, g49, a51, b52, c53, a55, b56, c57, c58] <;> omega) (ih45 _ (cont_elim hx))
    simp only [go_sem, seval, c48, g49]
    refine hK _ _ (by kernel_rfl) (by simp [c48, g49]) ?_
    clear hK K
    refine Walk.condF rfl (Walk.skip (Walk.inBlock (Walk.region' rfl fun K hK => ?_)))
    simp only [go_sem, seval, c48, g49]
    refine hK _ ?_
    clear hK K
    exact Walk.weaken _ (by simp [c48, g49] <;> omega) (by simp [c48, g49] <;> omega) (ih45 _ (cont_elim hx))
  refine Walk.exit rfl ?_
  obtain ⟨z61, e62, hx⟩ := exit_elim hx
  rw [hr46 z61 e62] at hx
  refine Walk.seq (Walk.region' rfl fun K hK => ?_)
  simp only [go_sem, seval, c48]
  refine hK _ ?_
  clear hK K
  obtain rfl := Option.some.inj hx
  exact Walk.ret ⟨by simp [c48], by simp [c48]⟩
noncomputable def blueprint_choice (v1 : List Int) (v2 : Int) : Option (Bool) :=
  (blueprint_ascending v1).bind fun v6 => bif v6 then ((blueprint_in (IntKind.i64.wrap (v2 - 1)) v1).bind fun v7 => some (v7 : Bool)) else (some (false : Bool))
theorem blueprint_choice_ok (v1 : List Int) (v2 : Int) (r : Bool) (hx : blueprint_choice v1 v2 = some r) :
    ACalls Try.prog 56 [.d (.sl (List.map iD v1)), .d (.int .i64 v2)] [] (.d (.bool r)) [] := by
  refine ACalls.of_sem (n := 13) 0 [4] (fn := Try.f56) Try.func56 rfl rfl (.one rfl) rfl (by simp) (by intro i; simp only [hget]; (repeat' split) <;> simp <;> omega) ?_
  unfold blueprint_choice at hx
  refine Walk.seq (Walk.region' rfl fun K hK => ?_)
  simp only [go_sem, seval]
  refine hK _ ?_
  clear hK K
  refine Walk.seq (Walk.region' rfl fun K hK => ?_)
  obtain ⟨v6, h4, hx⟩ := bind_elim hx
  simp only [go_sem, seval]
  refine VCl.pure rfl (by simp only [go_sem, seval]; try simp) (blueprint_ascending_ok v1 _ h4) (by simp only [go_sem, seval]; try simp) (by simp only [go_sem, seval]; try simp) (by simp only [go_sem, seval]; try simp) (by simp only [go_sem, seval]; try simp) (by simp only [go_sem, seval]; try simp) (by simp only [go_sem, seval]; try simp) ?_
  simp only [go_sem, seval]
  refine VGdO hx (fun g5 hx => ?_) (fun g5 hx => ?_)
  · obtain ⟨v7, h6, hx⟩ := bind_elim hx
    simp only [go_sem, seval, g5]
    refine VCl.pure rfl (by simp only [go_sem, seval, g5]; try simp) (blueprint_in_ok (IntKind.i64.wrap (v2 - 1)) v1 _ h6) (by simp only [go_sem, seval, g5]; try simp) (by simp only [go_sem, seval, g5]; try simp) (by simp only [go_sem, seval, g5]; try simp) (by simp only [go_sem, seval, g5]; try simp) (by simp only [go_sem, seval, g5]; try simp) (by simp only [go_sem, seval, g5]; try simp) ?_
    simp only [go_sem, seval, g5]
    refine hK _ ?_
    clear hK K
    obtain rfl := Option.some.inj hx
    exact Walk.ret ⟨by simp [g5], by simp [g5]⟩
  simp only [go_sem, seval, g5]
  refine hK _ ?_
  clear hK K
  obtain rfl := Option.some.inj hx
  exact Walk.ret ⟨by simp [g5], by simp [g5]⟩
noncomputable def blueprint_sum_l0 (v2 : List Int) (v1 : List Int) (v14 : Int) (v15 : Int) : Option ((Int × Int) ⊕ (Int)) :=
  bif decide (v15 < (v2.length : Int)) then ((rd v2 v15).bind fun v18 => (rd v1 v18).bind fun v19 => contO ((IntKind.i64.wrap (v14 + v19), IntKind.i64.wrap (v15 + 1)) : Int × Int)) else (exitO (some (v14 : Int)))
noncomputable def blueprint_sum (v1 : List Int) (v2 : List Int) : Option (Int) :=
  iter (fun g : Int × Int => blueprint_sum_l0 v2 v1 g.1 g.2) (0, 0)
theorem blueprint_sum_ok (v1 : List Int) (v2 : List Int) (r : Int) (hx : blueprint_sum v1 v2 = some r) :
    ACalls Try.prog 57 [.d (.sl (List.map iD v1)), .d (.sl (List.map iD v2))] [] (.d (.int .i64 r)) [] := by
  refine ACalls.of_sem (n := 22) 0 [4] (fn := Try.f57) Try.func57 rfl rfl (.one rfl) rfl (by simp) (by intro i; simp only [hget]; (repeat' split) <;> simp <;> omega) ?_
  unfold blueprint_sum at hx
  refine Walk.seq (Walk.region' rfl fun K hK => ?_)
  simp only [go_sem, seval]
  refine hK _ ?_
  clear hK K
  refine Walk.seq (Walk.region' rfl fun K hK => ?_)
  simp only [go_sem, seval]
  refine hK _ ?_
  clear hK K
  refine Walk.seq (Walk.seq (Walk.region' rfl fun K hK => ?_))
  simp only [go_sem, seval]
  refine hK _ ?_
  clear hK K
  refine Walk.block (Walk.loop ?_)
  refine Walk.weaken ⟨[(0, .d (.sl (List.map iD v1))), (5, .d (.int .i64 0)), (8, .d (.sl (List.map iD v2))), (9, .d (.int .i64 (v2.length : Int))), (10, .d (.int .i64 0))], []⟩ (by simp <;> omega) (by simp <;> omega) ?_
  refine Walk.iter (σ := Int × Int) (fun g => ⟨[(0, .d (.sl (List.map iD v1))), (5, .d (.int .i64 g.1)), (8, .d (.sl (List.map iD v2))), (9, .d (.int .i64 (v2.length : Int))), (10, .d (.int .i64 g.2))], []⟩) (fun g : Int × Int => blueprint_sum_l0 v2 v1 g.1 g.2) _ (fun g y69 hx ih55 hr56 => ?_) (0, 0) hx
  obtain ⟨v14, v15⟩ := g
  unfold blueprint_sum_l0 at hx
  try dsimp only at hx ⊢
  refine Walk.seq (Walk.region' rfl fun K hK => ?_)
  simp only [go_sem, seval]
  refine hK _ ?_
  clear hK K
  refine Walk.seq (Walk.condO rfl hx (fun c58 hx => ?_) (fun c58 hx => ?_))
  · refine Walk.skip (Walk.seq (Walk.block (Walk.seq (Walk.region' rfl fun K hK => ?_))))
    obtain ⟨v18, r59, a60, b61, c62, hx⟩ := rd_elim hx
    simp only [go_sem, seval, c58, a60, b61, c62]
    repeat refine And.intro (by first | omega | (simp; done) | (simp; omega)) ?_
    refine hK _ ?_
    clear hK K
    refine Walk.region' rfl fun K hK => ?_
    obtain ⟨v19, r63, a64, b65, c66, hx⟩ := rd_elim hx
    simp only [go_sem, seval, c58, a60, b61, c62, a64, b65, c66]
    repeat refine And.intro (by first | omega | (simp; done) | (simp; omega)) ?_
    refine hK _ ?_
    clear hK K
    refine Walk.inBlock (Walk.region' rfl fun K hK => ?_)
    simp only [go_sem, seval, c58, a60, b61, c62, a64, b65, c66]
    refine hK _ ?_
    clear hK K
    exact Walk.weaken _ (by simp [c58, a60, b61, c62, a64, b65, c66] <;> omega) (by simp [c58, a60, b61, c62, a64, b65, c66] <;> omega) (ih55 _ (cont_elim hx))
  refine Walk.exit rfl ?_
  obtain ⟨z67, e68, hx⟩ := exit_elim hx
  rw [hr56 z67 e68] at hx
  refine Walk.seq (Walk.region' rfl fun K hK => ?_)
  simp only [go_sem, seval, c58]
  refine hK _ ?_
  clear hK K
  obtain rfl := Option.some.inj hx
  exact Walk.ret ⟨by simp [c58], by simp [c58]⟩
end Go.AX

