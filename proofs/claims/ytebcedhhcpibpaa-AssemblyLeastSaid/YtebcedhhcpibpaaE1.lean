import Derived.Test.YtebcedhhcpibpaaT
set_option linter.unusedVariables false
set_option linter.unusedSimpArgs false
set_option maxRecDepth 20000
set_option maxHeartbeats 4000000
namespace Go.AX
open Go.Proofs
attribute [local simp] spl_len take_snoc take_cons_drop cons_rep cons_tail iA bA take_set_len idsL_rep idsL_iA idsL_bA idsL_sA idsL_set_mem idsL_sub sA_def List.map_replicate frVs_setS frVs_self frV_arr take_map_len subE subH eget hget upE upV upH upO_refl upO_box upVs freshE freshH freshO AV.ids AV.idsL ids_box ids_arr ids_pre idsL_room frE frV_refl frV_arr frH frO_refl frO_box frVs newOk evalA AV.viewXs AV.viewX AV.viewXP AV.viewXPs AV.viewPs AV.viewP AV.flat AV.flatL D.flat arrsOnly flatObjs newNames subOf closedIn allSome dstOk newOrOld avD avDp zv_i64 zv_u8 zv_bool zv_nils zv_nilp zv_str retAV aLoad cut TI.isAgg nlE nlH nlO_refl nlO_box nlVs nlV_refl nlV_nil iD uD bD tD lD List.map_set ti1 ti2 ti3 ti4 ti5 ti6 ti7 ti8 ti9 ti10 ti11 ti12 ti13 ti14 ti15 ti16 ti17 ti18 ti19 ti21 ti22 ti23 ti24 ti25 ti26 ti27 ti28 ti29 ti30 ti32 ti33 ti34 ti35 ti36 ti37 ti38 ti40 ti41 ti42 ti43 ti44 ti45 ti46 ti47 ti48 ti49 ti50 ti51 ti52 ti54 ti55 ti56 ti57 ti58 ti59 ti61 ti62 ti63 ti64 ti65 ti66 ti67 ti68 ti69 ti70 ti72 ti73 ti74 ti75 ti76 ti77 ti78 ti79 ti80 ti81 ti82 ti83 ti84 ti85 ti86 ti87 ti89 ti91 ti92 ti93 ti94 ti95 ti96 ti97 ti98 ti99 ti100 ti101 ti103 ti105 ti106 ti107 ti108 ti109 ti110 ti111 ti112 ti113 ti114 ti115 ti117 ti118 ti120 ti121 ti122 ti123 ti124 ti125 ti126 ti127 ti128 ti129 ti130 ti131 ti132 ti133 ti134 ti135 ti136 ti137 ti138 ti139 ti140 Row.D Node.D Part.D TItem.D Ref.D
attribute [local go_sem] V1_none V1_some V_nil V_move V_assign V_pick V_bin V_un V_extract V_makeFunc V_convert V_nilCheck V_fieldAddr V_field V_load V_store V_indexAddr V_index V_slice V_slice0 V_alloc V_box V_build V_buildSlice V_makeSlice V_len V_min V_max V_append V_copy V_call V_guard VGs_some VG_tt VG_ff VG_tf VG_ft VG_u gslot ok fail po so aNew dstOk freshU addLog_none' addLog_some' St.step putL evalA eget hget argE freshE freshO freshH AV.ids AV.idsL AV.ok1 AV.cells ids_box ids_arr liveBox liveArr isArr isObj isBoxB aPick isNilC aNilEq aBin aUn aExtract aMakeFunc aConvert aNilCheck aFieldAddr aField cut aLen aIndexAddr aMin aMax aIndex bnd isInt aSlice aSlice0 aLoad aAlloc aBox aStore splice aMake aMakeBox aCopy cellsOf cellsOfP updIds newIds zv_i64 zv_u8 zv_bool zv_nils zv_nilp cond_bool cond_int TI.isAgg TK.isSl TK.el okL avDps avDp avD List.map_cons List.map_nil List.append_nil List.nil_append List.cons_append List.length_cons List.length_nil List.take_succ_cons List.take_zero List.drop_succ_cons List.drop_zero List.take_nil List.drop_nil List.headD_cons List.getD_cons_zero List.getD_cons_succ List.mem_cons List.not_mem_nil List.getElem?_cons_zero List.getElem?_cons_succ List.toList_toArray Option.getD_some Option.getD_none Option.bind_some Option.bind_none Option.map_some Option.map_none Option.getD Option.toList Nat.zero_add Nat.add_zero Nat.zero_le Nat.le_refl if_true if_false ite_self true_and and_true false_and and_false true_or or_true false_or or_false not_true_eq_false not_false_eq_true ne_eq cond_true cond_false Bool.true_eq_false Bool.false_eq_true forall_const decide_true decide_false implies_true true_implies and_self or_self Nat.succ_ne_zero Int.toNat_natCast Int.natCast_nonneg List.length_map decide_eq_true_eq AV.views AV.view AV.viewPs AV.viewP arrsOnly newNames List.length_append List.append_assoc Bool.not_true Bool.not_false AV.ok2 aBuild fillR fillP aBuildSlice dense elP aAppend esOf esOfP List.forall_mem_cons forall_eq_or_imp forall_eq zD zDp map_take' map_drop' iD uD bD tD lD iD_len uD_len bD_len tD_len lD_len LB Int.cast_ofNat_Int Int.natCast_zero Int.natCast_one head_len all_len List.head?_cons List.head?_nil Bool.not_not eq_self List.take_length zv_str aConv byteOf isByte map_bcell bytes_all str_map cellsEq cellsP AV.kd Bool.and_true Bool.true_and Bool.and_false Bool.false_and spl_map spl_len mkbox_i mkbox_b flat_iD dataL_iA dataL_bA zv_u64 flat_iD' flat_len dataL_tA dataL_ttA spl_mt spl_mtt mkbox_s splice_one take_cons_drop cons_rep cons_tail hd_set hd_set0 List.length_replicate iA bA sA_def List.set_set List.length_set idsL_iA idsL_bA idsL_sA idsL_setE idsL_rep List.append_eq Nat.mul_one ids_pre idsL_room appBox_full appBox_room pre_iA one_iD List.flatten_cons List.flatten_nil ti1 ti2 ti3 ti4 ti5 ti6 ti7 ti8 ti9 ti10 ti11 ti12 ti13 ti14 ti15 ti16 ti17 ti18 ti19 ti21 ti22 ti23 ti24 ti25 ti26 ti27 ti28 ti29 ti30 ti32 ti33 ti34 ti35 ti36 ti37 ti38 ti40 ti41 ti42 ti43 ti44 ti45 ti46 ti47 ti48 ti49 ti50 ti51 ti52 ti54 ti55 ti56 ti57 ti58 ti59 ti61 ti62 ti63 ti64 ti65 ti66 ti67 ti68 ti69 ti70 ti72 ti73 ti74 ti75 ti76 ti77 ti78 ti79 ti80 ti81 ti82 ti83 ti84 ti85 ti86 ti87 ti89 ti91 ti92 ti93 ti94 ti95 ti96 ti97 ti98 ti99 ti100 ti101 ti103 ti105 ti106 ti107 ti108 ti109 ti110 ti111 ti112 ti113 ti114 ti115 ti117 ti118 ti120 ti121 ti122 ti123 ti124 ti125 ti126 ti127 ti128 ti129 ti130 ti131 ti132 ti133 ti134 ti135 ti136 ti137 ti138 ti139 ti140 Row.D Node.D Part.D TItem.D Ref.D Row.D_len Node.D_len Part.D_len TItem.D_len Ref.D_len zs_ zs_48_49_50_51_52_53_54_55_56_57_48_49_50_51_52_53_54_55_56_57_48_49_50_51_52_53_54_55_56_57_48_49_50_51_52_53_54_55_56_57_120 zs_113 zs_116_97_98_9 eqf74_00
noncomputable def mk_New (v1 : List Int) : Option (List Int) :=
  bif decide ((v1.length : Int) > 600) then (chk (0 ≤ 600 ∧ 600 ≤ (v1.length : Int)) (some (((v1.take 600).drop 0) : List Int))) else (some (v1 : List Int))
theorem mk_New_ok (v1 : List Int) (r : List Int) (hx : mk_New v1 = some r) :
    ACalls Try.prog 11 [.d (.sl (List.map iD v1))] [] (.box 2000 0) [(2000, some (.box [.d (.sl (List.map iD r)), .d (.int .i64 0)]))] := by
  refine ACalls.of_sem (n := 11) 0 [2] (fn := Try.f11) Try.func11 rfl rfl (.one rfl) rfl (by simp) (by intro i; simp only [hget]; (repeat' split) <;> simp <;> omega) ?_
  unfold mk_New at hx
  refine Walk.seq (Walk.region' rfl fun K hK => ?_)
  simp only [go_sem, seval]
  refine hK _ ?_
  clear hK K
  refine Walk.seq (Walk.seq (Walk.region' rfl fun K hK => ?_))
  simp only [go_sem, seval]
  refine hK _ ?_
  clear hK K
  refine Walk.condO rfl hx (fun c3 hx => ?_) (fun c3 hx => ?_)
  · refine Walk.region' rfl fun K hK => ?_
    obtain ⟨k4, hx⟩ := chk_elim hx
    simp only [go_sem, seval, c3, k4]
    repeat refine And.intro (by first | omega | (simp; done) | (simp; omega)) ?_
    refine hK _ ?_
    clear hK K
    refine Walk.weaken ⟨[(0, .d (.sl (List.map iD (((v1.take 600).drop 0)))))], []⟩ (by simp [c3, k4] <;> omega) (by simp [c3, k4] <;> omega) ?_
    refine Walk.seq (Walk.region' rfl fun K hK => ?_)
    simp only [go_sem, seval, c3, k4]
    refine hK _ ?_
    clear hK K
    refine Walk.weaken ⟨[(2, .box 10 0)], [(10, some (.box [.d (.sl (List.map iD (((v1.take 600).drop 0)))), .d (.int .i64 0)]))]⟩ (by simp [c3, k4] <;> omega) (by simp [c3, k4] <;> omega) ?_
    refine Walk.rename 10 2000 (by omega) (by omega) (by simp) (by simp) ?_
    simp only [renE, renL, AV.ren, AV.rens, AObj.ren, swp, Option.map_some, reduceIte, Nat.reduceEqDiff]
    obtain rfl := Option.some.inj hx
    exact Walk.ret ⟨by simp [c3, k4], by simp [c3, k4]⟩
  refine Walk.skip (Walk.seq (Walk.region' rfl fun K hK => ?_))
  simp only [go_sem, seval, c3]
  refine hK _ ?_
  clear hK K
  refine Walk.weaken ⟨[(2, .box 10 0)], [(10, some (.box [.d (.sl (List.map iD v1)), .d (.int .i64 0)]))]⟩ (by simp [c3] <;> omega) (by simp [c3] <;> omega) ?_
  refine Walk.rename 10 2000 (by omega) (by omega) (by simp) (by simp) ?_
  simp only [renE, renL, AV.ren, AV.rens, AObj.ren, swp, Option.map_some, reduceIte, Nat.reduceEqDiff]
  obtain rfl := Option.some.inj hx
  exact Walk.ret ⟨by simp [c3], by simp [c3]⟩
noncomputable def mk_Tape_Raw (v1 : List Int) (v2 : Int) : Option (Int × Int) :=
  bif decide (v2 ≥ (v1.length : Int)) then (some ((0, v2) : Int × Int)) else ((rd v1 (IntKind.i64.wrap ((IntKind.i64.wrap (v2 + 1)) - 1))).bind fun v6 => some ((v6, IntKind.i64.wrap (v2 + 1)) : Int × Int))
theorem mk_Tape_Raw_ok (v1 : List Int) (v2 : Int) (r : Int × Int) (hx : mk_Tape_Raw v1 v2 = some r) :
    ACalls Try.prog 52 [.box 0 0] [(0, some (.box [.d (.sl (List.map iD v1)), .d (.int .i64 v2)]))] (.d (.int .i64 r.1)) [(0, some (.box [.d (.sl (List.map iD v1)), .d (.int .i64 r.2)]))] := by
  refine ACalls.of_sem (n := 31) 1 [2] (fn := Try.f52) Try.func52 rfl rfl (.one rfl) rfl (by simp) (by intro i; simp only [hget]; (repeat' split) <;> simp <;> omega) ?_
  unfold mk_Tape_Raw at hx
  refine Walk.seq (Walk.region' rfl fun K hK => ?_)
  simp only [go_sem, seval]
  refine hK _ ?_
  clear hK K
  refine Walk.seq (Walk.seq (Walk.drawn' rfl mixed fun K hK => ?_))
  simp only [go_sem, seval]
  refine hK _ _ (by kernel_rfl) (by simp) ?_
  clear hK K
  refine Walk.condO rfl hx (fun c10 hx => ?_) (fun c10 hx => ?_)
  · refine Walk.seq (Walk.region' rfl fun K hK => ?_)
    simp only [go_sem, seval, c10]
    refine hK _ ?_
    clear hK K
    obtain rfl := Option.some.inj hx
    exact Walk.ret ⟨by simp [c10], by simp [c10]⟩
  refine Walk.skip (Walk.seq (Walk.region' rfl fun K hK => ?_))
  simp only [go_sem, seval, c10]
  refine hK _ ?_
  clear hK K
  refine Walk.seq (Walk.drawn' rfl mixed fun K hK => ?_)
  obtain ⟨v6, r11, a12, b13, c14, hx⟩ := rd_elim hx
  simp only [go_sem, seval, c10, a12, b13, c14]
  repeat refine And.intro (by first | omega | (simp; done) | (simp; omega)) ?_
  refine hK _ _ (by kernel_rfl) (by simp [c10, a12, b13, c14]) ?_
  clear hK K
  obtain rfl := Option.some.inj hx
  exact Walk.ret ⟨by simp [c10, a12, b13, c14], by simp [c10, a12, b13, c14]⟩
noncomputable def mk_Cut (v1 : Int) (v2 : Int) : Option (Int) :=
  bif decide (v2 < 1) then (some (0 : Int)) else (chk (¬ v2 = 0) (bif decide ((v1.tmod v2) < 0) then (some (IntKind.i64.wrap ((v1.tmod v2) + v2) : Int)) else (some ((v1.tmod v2) : Int))))
theorem mk_Cut_ok (v1 : Int) (v2 : Int) (r : Int) (hx : mk_Cut v1 v2 = some r) :
    ACalls Try.prog 28 [.d (.int .i64 v1), .d (.int .i64 v2)] [] (.d (.int .i64 r)) [] := by
  refine ACalls.of_sem (n := 16) 0 [4] (fn := Try.f28) Try.func28 rfl rfl (.one rfl) rfl (by simp) (by intro i; simp only [hget]; (repeat' split) <;> simp <;> omega) ?_
  unfold mk_Cut at hx
  refine Walk.seq (Walk.region' rfl fun K hK => ?_)
  simp only [go_sem, seval]
  refine hK _ ?_
  clear hK K
  refine Walk.seq (Walk.seq (Walk.region' rfl fun K hK => ?_))
  simp only [go_sem, seval]
  refine hK _ ?_
  clear hK K
  refine Walk.condO rfl hx (fun c8 hx => ?_) (fun c8 hx => ?_)
  · refine Walk.seq (Walk.region' rfl fun K hK => ?_)
    simp only [go_sem, seval, c8]
    refine hK _ ?_
    clear hK K
    obtain rfl := Option.some.inj hx
    exact Walk.ret ⟨by simp [c8], by simp [c8]⟩
  refine Walk.skip (Walk.seq (Walk.region' rfl fun K hK => ?_))
  obtain ⟨k9, hx⟩ := chk_elim hx
  simp only [go_sem, seval, c8, k9]
  repeat refine And.intro (by first | omega | (simp; done) | (simp; omega)) ?_
  refine hK _ ?_
  clear hK K
  refine Walk.seq (Walk.seq (Walk.region' rfl fun K hK => ?_))
  simp only [go_sem, seval, c8, k9]
  refine hK _ ?_
  clear hK K
  refine Walk.condO rfl hx (fun c10 hx => ?_) (fun c10 hx => ?_)
  · refine Walk.region' rfl fun K hK => ?_
    simp only [go_sem, seval, c8, k9, c10]
    refine hK _ ?_
    clear hK K
    refine Walk.seq (Walk.region' rfl fun K hK => ?_)
    simp only [go_sem, seval, c8, k9, c10]
    refine hK _ ?_
    clear hK K
    obtain rfl := Option.some.inj hx
    exact Walk.ret ⟨by simp [c8, k9, c10], by simp [c8, k9, c10]⟩
  refine Walk.skip (Walk.seq (Walk.region' rfl fun K hK => ?_))
  simp only [go_sem, seval, c8, k9, c10]
  refine hK _ ?_
  clear hK K
  obtain rfl := Option.some.inj hx
  exact Walk.ret ⟨by simp [c8, k9, c10], by simp [c8, k9, c10]⟩
noncomputable def mk_Tape_Next (v1 : List Int) (v2 : Int) (v3 : Int) : Option (Int × Int) :=
  (mk_Tape_Raw v1 v2).bind fun v8 => (mk_Cut v8.1 v3).bind fun v9 => some ((v9, v8.2) : Int × Int)
theorem mk_Tape_Next_ok (v1 : List Int) (v2 : Int) (v3 : Int) (r : Int × Int) (hx : mk_Tape_Next v1 v2 v3 = some r) :
    ACalls Try.prog 22 [.box 0 0, .d (.int .i64 v3)] [(0, some (.box [.d (.sl (List.map iD v1)), .d (.int .i64 v2)]))] (.d (.int .i64 r.1)) [(0, some (.box [.d (.sl (List.map iD v1)), .d (.int .i64 r.2)]))] := by
  refine ACalls.of_sem (n := 9) 1 [4] (fn := Try.f22) Try.func22 rfl rfl (.one rfl) rfl (by simp) (by intro i; simp only [hget]; (repeat' split) <;> simp <;> omega) ?_
  unfold mk_Tape_Next at hx
  refine Walk.seq (Walk.region' rfl fun K hK => ?_)
  simp only [go_sem, seval]
  refine hK _ ?_
  clear hK K
  refine Walk.seq (Walk.region' rfl fun K hK => ?_)
  obtain ⟨v8, h3, hx⟩ := bind_elim hx
  simp only [go_sem, seval]
  refine VCl.sub [(0, some (.box [.d (.sl (List.map iD v1)), .d (.int .i64 v2)]))] [] rfl (by simp only [go_sem, seval, AV.viewXs, AV.viewX, avD]; try simp) (mk_Tape_Raw_ok v1 v2 _ h3) (by simp) (by simp) (by simp) (by simp) (by simp) (by simp) (by simp) (by simp) (by simp) (by simp) ?_
  obtain ⟨v9, h4, hx⟩ := bind_elim hx
  simp only [go_sem, seval]
  refine VCl.pure rfl (by simp only [go_sem, seval]; try simp) (mk_Cut_ok v8.1 v3 _ h4) (by simp only [go_sem, seval]; try simp) (by simp only [go_sem, seval]; try simp) (by simp only [go_sem, seval]; try simp) (by simp only [go_sem, seval]; try simp) (by simp only [go_sem, seval]; try simp) (by simp only [go_sem, seval]; try simp) ?_
  simp only [go_sem, seval]
  refine hK _ ?_
  clear hK K
  refine Walk.weaken ⟨[(4, .d (.int .i64 v9))], [(0, some (.box [.d (.sl (List.map iD v1)), .d (.int .i64 v8.2)]))]⟩ (by simp <;> omega) (by simp <;> omega) ?_
  obtain rfl := Option.some.inj hx
  exact Walk.ret ⟨by simp, by simp⟩
noncomputable def mk_Tape_Range (v1 : List Int) (v2 : Int) (v3 : Int) (v4 : Int) : Option (Int × Int) :=
  (mk_Tape_Next v1 v2 (IntKind.i64.wrap ((IntKind.i64.wrap (v4 - v3)) + 1))).bind fun v8 => some ((IntKind.i64.wrap (v3 + v8.1), v8.2) : Int × Int)
theorem mk_Tape_Range_ok (v1 : List Int) (v2 : Int) (v3 : Int) (v4 : Int) (r : Int × Int) (hx : mk_Tape_Range v1 v2 v3 v4 = some r) :
    ACalls Try.prog 37 [.box 0 0, .d (.int .i64 v3), .d (.int .i64 v4)] [(0, some (.box [.d (.sl (List.map iD v1)), .d (.int .i64 v2)]))] (.d (.int .i64 r.1)) [(0, some (.box [.d (.sl (List.map iD v1)), .d (.int .i64 r.2)]))] := by
  refine ACalls.of_sem (n := 15) 1 [6] (fn := Try.f37) Try.func37 rfl rfl (.one rfl) rfl (by simp) (by intro i; simp only [hget]; (repeat' split) <;> simp <;> omega) ?_
  unfold mk_Tape_Range at hx
  refine Walk.seq (Walk.region' rfl fun K hK => ?_)
  simp only [go_sem, seval]
  refine hK _ ?_
  clear hK K
  refine Walk.seq (Walk.region' rfl fun K hK => ?_)
  obtain ⟨v8, h2, hx⟩ := bind_elim hx
  simp only [go_sem, seval]
  refine VCl.sub [(0, some (.box [.d (.sl (List.map iD v1)), .d (.int .i64 v2)]))] [] rfl (by simp only [go_sem, seval, AV.viewXs, AV.viewX, avD]; try simp) (mk_Tape_Next_ok v1 v2 (IntKind.i64.wrap ((IntKind.i64.wrap (v4 - v3)) + 1)) _ h2) (by simp) (by simp) (by simp) (by simp) (by simp) (by simp) (by simp) (by simp) (by simp) (by simp) ?_
  simp only [go_sem, seval]
  refine hK _ ?_
  clear hK K
  refine Walk.weaken ⟨[(6, .d (.int .i64 (IntKind.i64.wrap (v3 + v8.1))))], [(0, some (.box [.d (.sl (List.map iD v1)), .d (.int .i64 v8.2)]))]⟩ (by simp <;> omega) (by simp <;> omega) ?_
  obtain rfl := Option.some.inj hx
  exact Walk.ret ⟨by simp, by simp⟩
noncomputable def mk_Tape_Pick (v1 : List Int) (v2 : Int) (v3 : List Int) : Option (Int × Int) :=
  (mk_Tape_Next v1 v2 (v3.length : Int)).bind fun v8 => (rd v3 v8.1).bind fun v9 => some ((v9, v8.2) : Int × Int)
theorem mk_Tape_Pick_ok (v1 : List Int) (v2 : Int) (v3 : List Int) (r : Int × Int) (hx : mk_Tape_Pick v1 v2 v3 = some r) :
    ACalls Try.prog 38 [.box 0 0, .d (.sl (List.map iD v3))] [(0, some (.box [.d (.sl (List.map iD v1)), .d (.int .i64 v2)]))] (.d (.int .i64 r.1)) [(0, some (.box [.d (.sl (List.map iD v1)), .d (.int .i64 r.2)]))] := by
  refine ACalls.of_sem (n := 12) 1 [4] (fn := Try.f38) Try.func38 rfl rfl (.one rfl) rfl (by simp) (by intro i; simp only [hget]; (repeat' split) <;> simp <;> omega) ?_
  unfold mk_Tape_Pick at hx
  refine Walk.seq (Walk.region' rfl fun K hK => ?_)
  simp only [go_sem, seval]
  refine hK _ ?_
  clear hK K
  refine Walk.seq (Walk.region' rfl fun K hK => ?_)
  obtain ⟨v8, h6, hx⟩ := bind_elim hx
  simp only [go_sem, seval]
  refine VCl.sub [(0, some (.box [.d (.sl (List.map iD v1)), .d (.int .i64 v2)]))] [] rfl (by simp only [go_sem, seval, AV.viewXs, AV.viewX, avD]; try simp) (mk_Tape_Next_ok v1 v2 (v3.length : Int) _ h6) (by simp) (by simp) (by simp) (by simp) (by simp) (by simp) (by simp) (by simp) (by simp) (by simp) ?_
  obtain ⟨v9, r7, a8, b9, c10, hx⟩ := rd_elim hx
  simp only [go_sem, seval, a8, b9, c10]
  repeat refine And.intro (by first | omega | (simp; done) | (simp; omega)) ?_
  refine hK _ ?_
  clear hK K
  refine Walk.weaken ⟨[(4, .d (.int .i64 v9))], [(0, some (.box [.d (.sl (List.map iD v1)), .d (.int .i64 v8.2)]))]⟩ (by simp [a8, b9, c10] <;> omega) (by simp [a8, b9, c10] <;> omega) ?_
  obtain rfl := Option.some.inj hx
  exact Walk.ret ⟨by simp [a8, b9, c10], by simp [a8, b9, c10]⟩
noncomputable def mk_Tape_One (v1 : List Int) (v2 : Int) (v3 : Int) : Option (Bool × Int) :=
  (mk_Tape_Next v1 v2 v3).bind fun v7 => some ((decide (v7.1 = (IntKind.i64.wrap (v3 - 1))), v7.2) : Bool × Int)
theorem mk_Tape_One_ok (v1 : List Int) (v2 : Int) (v3 : Int) (r : Bool × Int) (hx : mk_Tape_One v1 v2 v3 = some r) :
    ACalls Try.prog 24 [.box 0 0, .d (.int .i64 v3)] [(0, some (.box [.d (.sl (List.map iD v1)), .d (.int .i64 v2)]))] (.d (.bool r.1)) [(0, some (.box [.d (.sl (List.map iD v1)), .d (.int .i64 r.2)]))] := by
  refine ACalls.of_sem (n := 11) 1 [4] (fn := Try.f24) Try.func24 rfl rfl (.one rfl) rfl (by simp) (by intro i; simp only [hget]; (repeat' split) <;> simp <;> omega) ?_
  unfold mk_Tape_One at hx
  refine Walk.seq (Walk.region' rfl fun K hK => ?_)
  simp only [go_sem, seval]
  refine hK _ ?_
  clear hK K
  refine Walk.seq (Walk.region' rfl fun K hK => ?_)
  obtain ⟨v7, h2, hx⟩ := bind_elim hx
  simp only [go_sem, seval]
  refine VCl.sub [(0, some (.box [.d (.sl (List.map iD v1)), .d (.int .i64 v2)]))] [] rfl (by simp only [go_sem, seval, AV.viewXs, AV.viewX, avD]; try simp) (mk_Tape_Next_ok v1 v2 v3 _ h2) (by simp) (by simp) (by simp) (by simp) (by simp) (by simp) (by simp) (by simp) (by simp) (by simp) ?_
  simp only [go_sem, seval]
  refine hK _ ?_
  clear hK K
  refine Walk.weaken ⟨[(4, .d (.bool (decide (v7.1 = (IntKind.i64.wrap (v3 - 1))))))], [(0, some (.box [.d (.sl (List.map iD v1)), .d (.int .i64 v7.2)]))]⟩ (by simp <;> omega) (by simp <;> omega) ?_
  obtain rfl := Option.some.inj hx
  exact Walk.ret ⟨by simp, by simp⟩
noncomputable def mk_Tape_Wild (v1 : List Int) (v2 : Int) : Option (Int × Int) :=
  (mk_Tape_Pick v1 v2 [-1, 0, 1, 2, 31, 32, 99, 100, 200, 201, 9999, 10000, 1000000, 1000001, 1152921504606846976, 1152921504606846977, -1152921504606846976, 9223372036854775807, -9223372036854775808]).bind fun v6 => some ((v6.1, v6.2) : Int × Int)
theorem mk_Tape_Wild_ok (v1 : List Int) (v2 : Int) (r : Int × Int) (hx : mk_Tape_Wild v1 v2 = some r) :
    ACalls Try.prog 39 [.box 0 0] [(0, some (.box [.d (.sl (List.map iD v1)), .d (.int .i64 v2)]))] (.d (.int .i64 r.1)) [(0, some (.box [.d (.sl (List.map iD v1)), .d (.int .i64 r.2)]))] := by
  refine ACalls.of_sem (n := 6) 1 [2] (fn := Try.f39) Try.func39 rfl rfl (.one rfl) rfl (by simp) (by intro i; simp only [hget]; (repeat' split) <;> simp <;> omega) ?_
  unfold mk_Tape_Wild at hx
  refine Walk.seq (Walk.region' rfl fun K hK => ?_)
  simp only [go_sem, seval]
  refine hK _ ?_
  clear hK K
  refine Walk.seq (Walk.region' rfl fun K hK => ?_)
  obtain ⟨v6, h2, hx⟩ := bind_elim hx
  simp only [go_sem, seval]
  refine VCl.sub [(0, some (.box [.d (.sl (List.map iD v1)), .d (.int .i64 v2)]))] [5] rfl (by simp only [go_sem, seval, AV.viewXs, AV.viewX, avD]; try simp) (mk_Tape_Pick_ok v1 v2 [-1, 0, 1, 2, 31, 32, 99, 100, 200, 201, 9999, 10000, 1000000, 1000001, 1152921504606846976, 1152921504606846977, -1152921504606846976, 9223372036854775807, -9223372036854775808] _ h2) (by simp) (by simp) (by simp) (by simp) (by simp) (by simp) (by simp) (by simp) (by simp) (by simp) ?_
  simp only [go_sem, seval]
  refine hK _ ?_
  clear hK K
  refine Walk.weaken ⟨[(2, .d (.int .i64 v6.1))], [(0, some (.box [.d (.sl (List.map iD v1)), .d (.int .i64 v6.2)]))]⟩ (by simp <;> omega) (by simp <;> omega) ?_
  obtain rfl := Option.some.inj hx
  exact Walk.ret ⟨by simp, by simp⟩
noncomputable def mk_Tape_Program_l2 (v229 : Int × Int) (v1 : List Int) (v398 : List Row) (v396 : Int) (v419 : Int × Int) (v420 : Int × Int) (v434 : Int) (v435 : Int) (v436 : List Int) : Option ((Int × Int × List Int) ⊕ ((Int × Int × List Row) ⊕ (Int × List Row × List Int))) :=
  bif decide (v434 < v229.1) then ((mk_Tape_Pick v1 v435 [0, 1, 1, 2, 3, -1, -2, 4]).bind fun v438 => chk ((v436.length + 1) * 8 ≤ 140737488355328) (contO ((IntKind.i64.wrap (v434 + 1), v438.2, (v436 ++ [v438.1])) : Int × Int × List Int))) else (exitO (chk ((v398.length + 1) * 40 ≤ 140737488355328) (contO ((IntKind.i64.wrap (v396 - 1), v435, (v398 ++ [(Row.mk v436 v419.1 v420.1)])) : Int × Int × List Row))))
noncomputable def mk_Tape_Program_j3 (v398 : List Row) (v245 : List Int) (v446 : Int) (v447 : List Int) : Option (Int × List Row × List Int) :=
  chk ((v398.length + 1) * 40 ≤ 140737488355328) (some ((v446, (v398 ++ [(Row.mk v447 0 1000000)]), v245) : Int × List Row × List Int))
noncomputable def mk_Tape_Program_l4 (v440 : Int × Int) (v398 : List Row) (v450 : Int) (v451 : List Int) : Option ((Int × List Int) ⊕ (Int × List Row × List Int)) :=
  bif decide (v450 < 13) then (chk ((v451.length + 1) * 8 ≤ 140737488355328) (contO ((IntKind.i64.wrap (v450 + 1), (v451 ++ [1])) : Int × List Int))) else (exitO (some ((v440.2, v398, v451) : Int × List Row × List Int)))
noncomputable def mk_Tape_Program_l1 (v1 : List Int) (v229 : Int × Int) (v4 : Int) (v245 : List Int) (v396 : Int) (v397 : Int) (v398 : List Row) : Option ((Int × Int × List Row) ⊕ (Int × List Row × List Int)) :=
  bif decide (v396 > 0) then ((mk_Tape_Range v1 v397 (-2) 4).bind fun v419 => (mk_Tape_Range v1 v419.2 2 9).bind fun v420 => iter (fun g : Int × Int × List Int => mk_Tape_Program_l2 v229 v1 v398 v396 v419 v420 g.1 g.2.1 g.2.2) (0, v420.2, [])) else (exitO (bif decide (v4 > 0) then ((mk_Tape_One v1 v397 v4).bind fun v439 => bif v439.1 then ((mk_Tape_Next v1 v439.2 5).bind fun v440 => bif decide (v440.1 = 0) then ((mk_Tape_Pick v1 v440.2 [-1, 10000, 10001]).bind fun v441 => chk ((v245.length + 1) * 8 ≤ 140737488355328) (some ((v441.2, v398, (v245 ++ [v441.1])) : Int × List Row × List Int))) else (bif decide (v440.1 = 1) then (chk ((0 : Int) ≤ v229.1 ∧ v229.1 = v229.1 ∧ 8 * v229.1 ≤ 281474976710656 ∧ v229.1 ≤ 281474976710656) ((mk_Tape_Wild v1 v440.2).bind fun v442 => (mk_Tape_Wild v1 v442.2).bind fun v443 => chk ((v398.length + 1) * 40 ≤ 140737488355328) (some ((v443.2, (v398 ++ [(Row.mk ((List.replicate (v229.1).toNat (0 : Int))) v442.1 v443.1)]), v245) : Int × List Row × List Int)))) else (bif decide (v440.1 = 2) then (chk ((0 : Int) ≤ (IntKind.i64.wrap (v229.1 + 1)) ∧ (IntKind.i64.wrap (v229.1 + 1)) = (IntKind.i64.wrap (v229.1 + 1)) ∧ 8 * (IntKind.i64.wrap (v229.1 + 1)) ≤ 281474976710656 ∧ (IntKind.i64.wrap (v229.1 + 1)) ≤ 281474976710656) (chk ((v398.length + 1) * 40 ≤ 140737488355328) (some ((v440.2, (v398 ++ [(Row.mk ((List.replicate (IntKind.i64.wrap (v229.1 + 1)).toNat (0 : Int))) 0 0)]), v245) : Int × List Row × List Int)))) else (bif decide (v440.1 = 3) then (chk ((0 : Int) ≤ v229.1 ∧ v229.1 = v229.1 ∧ 8 * v229.1 ≤ 281474976710656 ∧ v229.1 ≤ 281474976710656) (bif decide (v229.1 > 0) then ((mk_Tape_Pick v1 v440.2 [10000, 10001, -10000, -10001]).bind fun v448 => (rd ((List.replicate (v229.1).toNat (0 : Int))) 0).bind fun v449 => mk_Tape_Program_j3 v398 v245 v448.2 (((List.replicate (v229.1).toNat (0 : Int))).set 0 v448.1)) else (mk_Tape_Program_j3 v398 v245 v440.2 (List.replicate (v229.1).toNat (0 : Int))))) else (iter (fun g : Int × List Int => mk_Tape_Program_l4 v440 v398 g.1 g.2) (0, v245)))))) else (some ((v439.2, v398, v245) : Int × List Row × List Int))) else (some ((v397, v398, v245) : Int × List Row × List Int))))
noncomputable def mk_Tape_Program_l0 (v229 : Int × Int) (v1 : List Int) (v4 : Int) (v243 : Int) (v244 : Int) (v245 : List Int) : Option ((Int × Int × List Int) ⊕ (Int × List Row × List Int)) :=
  bif decide (v243 < v229.1) then ((mk_Tape_Pick v1 v244 [0, 1, 2, 3, 5, 7, 10000]).bind fun v247 => chk ((v245.length + 1) * 8 ≤ 140737488355328) (contO ((IntKind.i64.wrap (v243 + 1), v247.2, (v245 ++ [v247.1])) : Int × Int × List Int))) else (exitO ((mk_Tape_Next v1 v244 4).bind fun v312 => iter (fun g : Int × Int × List Row => mk_Tape_Program_l1 v1 v229 v4 v245 g.1 g.2.1 g.2.2) (v312.1, v312.2, [])))
noncomputable def mk_Tape_Program (v1 : List Int) (v2 : Int) (v3 : Int) (v4 : Int) : Option (Int × List Row × List Int) :=
  (mk_Tape_Range v1 v2 0 v3).bind fun v229 => iter (fun g : Int × Int × List Int => mk_Tape_Program_l0 v229 v1 v4 g.1 g.2.1 g.2.2) (0, v229.2, [])
theorem mk_Tape_Program_ok (v1 : List Int) (v2 : Int) (v3 : Int) (v4 : Int) (r : Int × List Row × List Int) (hx : mk_Tape_Program v1 v2 v3 v4 = some r) :
    ACalls Try.prog 12 [.box 0 0, .d (.int .i64 v3), .d (.int .i64 v4)] [(0, some (.box [.d (.sl (List.map iD v1)), .d (.int .i64 v2)]))] (.agg [.arr 2001 0 r.2.2.length, .arr 2002 0 r.2.1.length]) [(0, some (.box [.d (.sl (List.map iD v1)), .d (.int .i64 r.1)])), (2001, some (.arr 3 1 (List.map iD r.2.2))), (2002, some (.arr 47 3 (List.map Row.D r.2.1)))] := by
  refine ACalls.of_cellS (n := 133) 1 6 25 (fn := Try.f12) Try.func12 rfl rfl rfl rfl (by simp) (by intro i; simp only [hget]; (repeat' split) <;> simp <;> omega) ?_
  unfold mk_Tape_Program at hx
  refine Walk.seq (Walk.region' rfl fun K hK => ?_)
  simp only [go_sem, seval]
  refine hK _ ?_
  clear hK K
  refine Walk.seq (Walk.region' rfl fun K hK => ?_)
  simp only [go_sem, seval]
  refine hK _ ?_
  clear hK K
  refine Walk.seq (Walk.region' rfl fun K hK => ?_)
  obtain ⟨v229, h646, hx⟩ := bind_elim hx
  simp only [go_sem, seval]
  refine VCl.sub [(0, some (.box [.d (.sl (List.map iD v1)), .d (.int .i64 v2)]))] [] rfl (by simp only [go_sem, seval, AV.viewXs, AV.viewX, avD]; try simp) (mk_Tape_Range_ok v1 v2 0 v3 _ h646) (by simp) (by simp) (by simp) (by simp) (by simp) (by simp) (by simp) (by simp) (by simp) (by simp) ?_
  simp only [go_sem, seval]
  refine hK _ ?_
  clear hK K
  refine Walk.weaken ⟨[(0, .box 0 0), (2, .d (.int .i64 v4)), (6, .box 7 0), (7, .box 8 0), (8, .d (.int .i64 v229.1))], [(0, some (.box [.d (.sl (List.map iD v1)), .d (.int .i64 v229.2)])), (7, some (.box [.nils, .nils])), (8, some (.box [.nils, .nils]))]⟩ (by simp <;> omega) (by simp <;> omega) ?_
  refine Walk.seq (Walk.seq (Walk.region' rfl fun K hK => ?_))
  simp only [go_sem, seval]
  refine hK _ ?_
  clear hK K
  refine Walk.block (Walk.loop ?_)
  refine Walk.weaken ⟨[(0, .box 0 0), (2, .d (.int .i64 v4)), (6, .box 7 0), (7, .box 8 0), (8, .d (.int .i64 v229.1)), (9, .d (.int .i64 0))], [(0, some (.box [.d (.sl (List.map iD v1)), .d (.int .i64 v229.2)])), (7, some (.box [.nils, .nils])), (8, some (.box [.nils, .nils]))]⟩ (by simp <;> omega) (by simp <;> omega) ?_
  refine Walk.up 1036 3 1 [(0, .box 0 0), (2, .d (.int .i64 v4)), (6, .box 7 0), (7, .box 8 0), (8, .d (.int .i64 v229.1)), (9, .d (.int .i64 0))] [(0, some (.box [.d (.sl (List.map iD v1)), .d (.int .i64 v229.2)])), (7, some (.box [.nils, .nils])), (8, some (.box [.arr 1036 0 0, .nils]))] (by simp) (by simp) (by omega) (by simp) (by simp) (by simp) ?_
  refine Walk.weaken ⟨[(0, .box 0 0), (2, .d (.int .i64 v4)), (6, .box 7 0), (7, .box 8 0), (8, .d (.int .i64 v229.1)), (9, .d (.int .i64 0))], [(0, some (.box [.d (.sl (List.map iD v1)), .d (.int .i64 v229.2)])), (7, some (.box [.nils, .nils])), (8, some (.box [.arr 1036 0 0, .nils])), (1036, some (.arr 3 1 (List.map iD [])))]⟩ (by simp <;> omega) (by simp <;> omega) ?_
  refine Walk.iter (σ := Int × Int × List Int) (fun g => ⟨[(0, .box 0 0), (2, .d (.int .i64 v4)), (6, .box 7 0), (7, .box 8 0), (8, .d (.int .i64 v229.1)), (9, .d (.int .i64 g.1))], [(0, some (.box [.d (.sl (List.map iD v1)), .d (.int .i64 g.2.1)])), (7, some (.box [.nils, .nils])), (8, some (.box [.arr 1036 0 g.2.2.length, .nils])), (1036, some (.arr 3 1 (List.map iD g.2.2)))]⟩) (fun g : Int × Int × List Int => mk_Tape_Program_l0 v229 v1 v4 g.1 g.2.1 g.2.2) _ (fun g y1303 hx ih692 hr693 => ?_) (0, v229.2, []) hx
  obtain ⟨v243, v244, v245⟩ := g
  unfold mk_Tape_Program_l0 at hx
  try dsimp only at hx ⊢
  refine Walk.seq (Walk.seq (Walk.region' rfl fun K hK => ?_))
  simp only [go_sem, seval]
  refine hK _ ?_
  clear hK K
  refine Walk.condO rfl hx (fun c696 hx => ?_) (fun c696 hx => ?_)
  · refine Walk.skip (Walk.seq (Walk.block (Walk.drawn' rfl mixed fun K hK => ?_)))
    obtain ⟨v247, h697, hx⟩ := bind_elim hx
    simp only [go_sem, seval, c696]
    refine VCl.sub [(0, some (.box [.d (.sl (List.map iD v1)), .d (.int .i64 v244)]))] [27] rfl (by simp only [go_sem, seval, AV.viewXs, AV.viewX, avD, c696]; try simp) (mk_Tape_Pick_ok v1 v244 [0, 1, 2, 3, 5, 7, 10000] _ h697) (by simp [c696]) (by simp [c696]) (by simp [c696]) (by simp [c696]) (by simp [c696]) (by simp [c696]) (by simp [c696]) (by simp [c696]) (by simp [c696]) (by simp [c696]) ?_
    obtain ⟨k698, hx⟩ := chk_elim hx
    simp only [go_sem, seval, c696, k698]
    repeat refine And.intro (by first | omega | (simp; done) | (simp; omega)) ?_
    refine hK _ _ (by kernel_rfl) (by simp [c696, k698]) ?_
    clear hK K
    refine Walk.weaken ⟨[(0, .box 0 0), (2, .d (.int .i64 v4)), (6, .box 7 0), (7, .box 8 0), (8, .d (.int .i64 v229.1)), (9, .d (.int .i64 v243))], [(0, some (.box [.d (.sl (List.map iD v1)), .d (.int .i64 v247.2)])), (7, some (.box [.nils, .nils])), (8, some (.box [.arr 1036 0 ((v245 ++ [v247.1]).length), .nils])), (1036, some (.arr 3 1 (List.map iD (v245 ++ [v247.1]))))]⟩ (by simp [c696, k698] <;> omega) (by simp [c696, k698] <;> omega) ?_
    refine Walk.inBlock (Walk.region' rfl fun K hK => ?_)
    simp only [go_sem, seval, c696, k698]
    refine hK _ ?_
    clear hK K
    exact Walk.weaken _ (by simp [c696, k698] <;> omega) (by simp [c696, k698] <;> omega) (ih692 _ (cont_elim hx))
  refine Walk.exit rfl ?_
  obtain ⟨z699, e700, hx⟩ := exit_elim hx
  rw [hr693 z699 e700] at hx
  refine Walk.seq (Walk.seq (Walk.region' rfl fun K hK => ?_))
  obtain ⟨v312, h885, hx⟩ := bind_elim hx
  simp only [go_sem, seval, c696]
  refine VCl.sub [(0, some (.box [.d (.sl (List.map iD v1)), .d (.int .i64 v244)]))] [] rfl (by simp only [go_sem, seval, AV.viewXs, AV.viewX, avD, c696]; try simp) (mk_Tape_Next_ok v1 v244 4 _ h885) (by simp [c696]) (by simp [c696]) (by simp [c696]) (by simp [c696]) (by simp [c696]) (by simp [c696]) (by simp [c696]) (by simp [c696]) (by simp [c696]) (by simp [c696]) ?_
  simp only [go_sem, seval, c696]
  refine hK _ ?_
  clear hK K
  refine Walk.weaken ⟨[(0, .box 0 0), (2, .d (.int .i64 v4)), (6, .box 7 0), (7, .box 8 0), (8, .d (.int .i64 v229.1)), (10, .d (.int .i64 v312.1))], [(0, some (.box [.d (.sl (List.map iD v1)), .d (.int .i64 v312.2)])), (7, some (.box [.nils, .nils])), (8, some (.box [.arr 1036 0 v245.length, .nils])), (1036, some (.arr 3 1 (List.map iD v245)))]⟩ (by simp [c696] <;> omega) (by simp [c696] <;> omega) ?_
  refine Walk.block (Walk.loop ?_)
  refine Walk.weaken ⟨[(0, .box 0 0), (2, .d (.int .i64 v4)), (6, .box 7 0), (7, .box 8 0), (8, .d (.int .i64 v229.1)), (10, .d (.int .i64 v312.1))], [(0, some (.box [.d (.sl (List.map iD v1)), .d (.int .i64 v312.2)])), (7, some (.box [.nils, .nils])), (8, some (.box [.arr 1036 0 v245.length, .nils])), (1036, some (.arr 3 1 (List.map iD v245)))]⟩ (by simp [c696] <;> omega) (by simp [c696] <;> omega) ?_
  refine Walk.up 1060 47 3 [(0, .box 0 0), (2, .d (.int .i64 v4)), (6, .box 7 0), (7, .box 8 0), (8, .d (.int .i64 v229.1)), (10, .d (.int .i64 v312.1))] [(0, some (.box [.d (.sl (List.map iD v1)), .d (.int .i64 v312.2)])), (7, some (.box [.nils, .nils])), (8, some (.box [.arr 1036 0 v245.length, .arr 1060 0 0])), (1036, some (.arr 3 1 (List.map iD v245)))] (by simp) (by simp) (by omega) (by simp) (by simp) (by simp) ?_
  refine Walk.weaken ⟨[(0, .box 0 0), (2, .d (.int .i64 v4)), (6, .box 7 0), (7, .box 8 0), (8, .d (.int .i64 v229.1)), (10, .d (.int .i64 v312.1))], [(0, some (.box [.d (.sl (List.map iD v1)), .d (.int .i64 v312.2)])), (7, some (.box [.nils, .nils])), (8, some (.box [.arr 1036 0 v245.length, .arr 1060 0 0])), (1036, some (.arr 3 1 (List.map iD v245))), (1060, some (.arr 47 3 (List.map Row.D [])))]⟩ (by simp [c696] <;> omega) (by simp [c696] <;> omega) ?_
  refine Walk.iter (σ := Int × Int × List Row) (fun g => ⟨[(0, .box 0 0), (2, .d (.int .i64 v4)), (6, .box 7 0), (7, .box 8 0), (8, .d (.int .i64 v229.1)), (10, .d (.int .i64 g.1))], [(0, some (.box [.d (.sl (List.map iD v1)), .d (.int .i64 g.2.1)])), (7, some (.box [.nils, .nils])), (8, some (.box [.arr 1036 0 v245.length, .arr 1060 0 g.2.2.length])), (1036, some (.arr 3 1 (List.map iD v245))), (1060, some (.arr 47 3 (List.map Row.D g.2.2)))]⟩) (fun g : Int × Int × List Row => mk_Tape_Program_l1 v1 v229 v4 v245 g.1 g.2.1 g.2.2) _ (fun g y1302 hx ih1188 hr1189 => ?_) (v312.1, v312.2, []) hx
  obtain ⟨v396, v397, v398⟩ := g
  unfold mk_Tape_Program_l1 at hx
  try dsimp only at hx ⊢
  refine Walk.seq (Walk.seq (Walk.region' rfl fun K hK => ?_))
  simp only [go_sem, seval, c696]
  refine hK _ ?_
  clear hK K
  refine Walk.condO rfl hx (fun c1192 hx => ?_) (fun c1192 hx => ?_)
  · refine Walk.skip (Walk.seq (Walk.block (Walk.seq (Walk.region' rfl fun K hK => ?_))))
    obtain ⟨v419, h1193, hx⟩ := bind_elim hx
    simp only [go_sem, seval, c696, c1192]
    refine VCl.sub [(0, some (.box [.d (.sl (List.map iD v1)), .d (.int .i64 v397)]))] [] rfl (by simp only [go_sem, seval, AV.viewXs, AV.viewX, avD, c696, c1192]; try simp) (mk_Tape_Range_ok v1 v397 (-2) 4 _ h1193) (by simp [c696, c1192]) (by simp [c696, c1192]) (by simp [c696, c1192]) (by simp [c696, c1192]) (by simp [c696, c1192]) (by simp [c696, c1192]) (by simp [c696, c1192]) (by simp [c696, c1192]) (by simp [c696, c1192]) (by simp [c696, c1192]) ?_
    obtain ⟨v420, h1194, hx⟩ := bind_elim hx
    simp only [go_sem, seval, c696, c1192]
    refine VCl.sub [(0, some (.box [.d (.sl (List.map iD v1)), .d (.int .i64 v419.2)]))] [] rfl (by simp only [go_sem, seval, AV.viewXs, AV.viewX, avD, c696, c1192]; try simp) (mk_Tape_Range_ok v1 v419.2 2 9 _ h1194) (by simp [c696, c1192]) (by simp [c696, c1192]) (by simp [c696, c1192]) (by simp [c696, c1192]) (by simp [c696, c1192]) (by simp [c696, c1192]) (by simp [c696, c1192]) (by simp [c696, c1192]) (by simp [c696, c1192]) (by simp [c696, c1192]) ?_
    simp only [go_sem, seval, c696, c1192]
    refine hK _ ?_
    clear hK K
    refine Walk.weaken ⟨[(0, .box 0 0), (2, .d (.int .i64 v4)), (6, .box 7 0), (7, .box 8 0), (8, .d (.int .i64 v229.1)), (10, .d (.int .i64 v396)), (11, .box 12 0)], [(0, some (.box [.d (.sl (List.map iD v1)), .d (.int .i64 v420.2)])), (7, some (.box [.nils, .nils])), (8, some (.box [.arr 1036 0 v245.length, .arr 1060 0 v398.length])), (12, some (.box [.nils, .d (.int .i64 v419.1), .d (.int .i64 v420.1)])), (1036, some (.arr 3 1 (List.map iD v245))), (1060, some (.arr 47 3 (List.map Row.D v398)))]⟩ (by simp [c696, c1192] <;> omega) (by simp [c696, c1192] <;> omega) ?_
    refine Walk.seq (Walk.seq (Walk.region' rfl fun K hK => ?_))
    simp only [go_sem, seval, c696, c1192]
    refine hK _ ?_
    clear hK K
    refine Walk.block (Walk.loop ?_)
    refine Walk.weaken ⟨[(0, .box 0 0), (2, .d (.int .i64 v4)), (6, .box 7 0), (7, .box 8 0), (8, .d (.int .i64 v229.1)), (10, .d (.int .i64 v396)), (11, .box 12 0), (12, .d (.int .i64 0))], [(0, some (.box [.d (.sl (List.map iD v1)), .d (.int .i64 v420.2)])), (7, some (.box [.nils, .nils])), (8, some (.box [.arr 1036 0 v245.length, .arr 1060 0 v398.length])), (12, some (.box [.nils, .d (.int .i64 v419.1), .d (.int .i64 v420.1)])), (1036, some (.arr 3 1 (List.map iD v245))), (1060, some (.arr 47 3 (List.map Row.D v398)))]⟩ (by simp [c696, c1192] <;> omega) (by simp [c696, c1192] <;> omega) ?_
    refine Walk.up 1066 3 1 [(0, .box 0 0), (2, .d (.int .i64 v4)), (6, .box 7 0), (7, .box 8 0), (8, .d (.int .i64 v229.1)), (10, .d (.int .i64 v396)), (11, .box 12 0), (12, .d (.int .i64 0))] [(0, some (.box [.d (.sl (List.map iD v1)), .d (.int .i64 v420.2)])), (7, some (.box [.nils, .nils])), (8, some (.box [.arr 1036 0 v245.length, .arr 1060 0 v398.length])), (12, some (.box [.arr 1066 0 0, .d (.int .i64 v419.1), .d (.int .i64 v420.1)])), (1036, some (.arr 3 1 (List.map iD v245))), (1060, some (.arr 47 3 (List.map Row.D v398)))] (by simp) (by simp) (by omega) (by simp) (by simp) (by simp) ?_
    refine Walk.weaken ⟨[(0, .box 0 0), (2, .d (.int .i64 v4)), (6, .box 7 0), (7, .box 8 0), (8, .d (.int .i64 v229.1)), (10, .d (.int .i64 v396)), (11, .box 12 0), (12, .d (.int .i64 0))], [(0, some (.box [.d (.sl (List.map iD v1)), .d (.int .i64 v420.2)])), (7, some (.box [.nils, .nils])), (8, some (.box [.arr 1036 0 v245.length, .arr 1060 0 v398.length])), (12, some (.box [.arr 1066 0 0, .d (.int .i64 v419.1), .d (.int .i64 v420.1)])), (1036, some (.arr 3 1 (List.map iD v245))), (1060, some (.arr 47 3 (List.map Row.D v398))), (1066, some (.arr 3 1 (List.map iD [])))]⟩ (by simp [c696, c1192] <;> omega) (by simp [c696, c1192] <;> omega) ?_
    refine Walk.iter (σ := Int × Int × List Int) (fun g => ⟨[(0, .box 0 0), (2, .d (.int .i64 v4)), (6, .box 7 0), (7, .box 8 0), (8, .d (.int .i64 v229.1)), (10, .d (.int .i64 v396)), (11, .box 12 0), (12, .d (.int .i64 g.1))], [(0, some (.box [.d (.sl (List.map iD v1)), .d (.int .i64 g.2.1)])), (7, some (.box [.nils, .nils])), (8, some (.box [.arr 1036 0 v245.length, .arr 1060 0 v398.length])), (12, some (.box [.arr 1066 0 g.2.2.length, .d (.int .i64 v419.1), .d (.int .i64 v420.1)])), (1036, some (.arr 3 1 (List.map iD v245))), (1060, some (.arr 47 3 (List.map Row.D v398))), (1066, some (.arr 3 1 (List.map iD g.2.2)))]⟩) (fun g : Int × Int × List Int => mk_Tape_Program_l2 v229 v1 v398 v396 v419 v420 g.1 g.2.1 g.2.2) _ (fun g y1250 hx ih1240 hr1241 => ?_) (0, v420.2, []) hx
    obtain ⟨v434, v435, v436⟩ := g
    unfold mk_Tape_Program_l2 at hx
    try dsimp only at hx ⊢
    refine Walk.seq (Walk.seq (Walk.region' rfl fun K hK => ?_))
    simp only [go_sem, seval, c696, c1192]
    refine hK _ ?_
    clear hK K
    refine Walk.condO rfl hx (fun c1244 hx => ?_) (fun c1244 hx => ?_)
    · refine Walk.skip (Walk.seq (Walk.block (Walk.drawn' rfl mixed fun K hK => ?_)))
      obtain ⟨v438, h1245, hx⟩ := bind_elim hx
      simp only [go_sem, seval, c696, c1192, c1244]
      refine VCl.sub [(0, some (.box [.d (.sl (List.map iD v1)), .d (.int .i64 v435)]))] [51] rfl (by simp only [go_sem, seval, AV.viewXs, AV.viewX, avD, c696, c1192, c1244]; try simp) (mk_Tape_Pick_ok v1 v435 [0, 1, 1, 2, 3, -1, -2, 4] _ h1245) (by simp [c696, c1192, c1244]) (by simp [c696, c1192, c1244]) (by simp [c696, c1192, c1244]) (by simp [c696, c1192, c1244]) (by simp [c696, c1192, c1244]) (by simp [c696, c1192, c1244]) (by simp [c696, c1192, c1244]) (by simp [c696, c1192, c1244]) (by simp [c696, c1192, c1244]) (by simp [c696, c1192, c1244]) ?_
      obtain ⟨k1246, hx⟩ := chk_elim hx
      simp only [go_sem, seval, c696, c1192, c1244, k1246]
      repeat refine And.intro (by first | omega | (simp; done) | (simp; omega)) ?_
      refine hK _ _ (by kernel_rfl) (by simp [c696, c1192, c1244, k1246]) ?_
      clear hK K
      refine Walk.weaken ⟨[(0, .box 0 0), (2, .d (.int .i64 v4)), (6, .box 7 0), (7, .box 8 0), (8, .d (.int .i64 v229.1)), (10, .d (.int .i64 v396)), (11, .box 12 0), (12, .d (.int .i64 v434))], [(0, some (.box [.d (.sl (List.map iD v1)), .d (.int .i64 v438.2)])), (7, some (.box [.nils, .nils])), (8, some (.box [.arr 1036 0 v245.length, .arr 1060 0 v398.length])), (12, some (.box [.arr 1066 0 ((v436 ++ [v438.1]).length), .d (.int .i64 v419.1), .d (.int .i64 v420.1)])), (1036, some (.arr 3 1 (List.map iD v245))), (1060, some (.arr 47 3 (List.map Row.D v398))), (1066, some (.arr 3 1 (List.map iD (v436 ++ [v438.1]))))]⟩ (by simp [c696, c1192, c1244, k1246] <;> omega) (by simp [c696, c1192, c1244, k1246] <;> omega) ?_
      refine Walk.inBlock (Walk.region' rfl fun K hK => ?_)
      simp only [go_sem, seval, c696, c1192, c1244, k1246]
      refine hK _ ?_
      clear hK K
      exact Walk.weaken _ (by simp [c696, c1192, c1244, k1246] <;> omega) (by simp [c696, c1192, c1244, k1246] <;> omega) (ih1240 _ (cont_elim hx))
    refine Walk.exit rfl ?_
    obtain ⟨z1247, e1248, hx⟩ := exit_elim hx
    rw [hr1241 z1247 e1248] at hx
    refine Walk.region' rfl fun K hK => ?_
    obtain ⟨k1249, hx⟩ := chk_elim hx
    simp only [go_sem, seval, c696, c1192, c1244, k1249]
    repeat refine And.intro (by first | omega | (simp; done) | (simp; omega)) ?_
    refine hK _ ?_
    clear hK K
    refine Walk.weaken ⟨[(0, .box 0 0), (2, .d (.int .i64 v4)), (6, .box 7 0), (7, .box 8 0), (8, .d (.int .i64 v229.1)), (10, .d (.int .i64 v396))], [(0, some (.box [.d (.sl (List.map iD v1)), .d (.int .i64 v435)])), (7, some (.box [.nils, .nils])), (8, some (.box [.arr 1036 0 v245.length, .arr 1060 0 (((v398 ++ [(Row.mk v436 v419.1 v420.1)])).length)])), (1036, some (.arr 3 1 (List.map iD v245))), (1060, some (.arr 47 3 (List.map Row.D ((v398 ++ [(Row.mk v436 v419.1 v420.1)])))))]⟩ (by simp [c696, c1192, c1244, k1249] <;> omega) (by simp [c696, c1192, c1244, k1249] <;> omega) ?_
    refine Walk.inBlock (Walk.region' rfl fun K hK => ?_)
    simp only [go_sem, seval, c696, c1192, c1244, k1249]
    refine hK _ ?_
    clear hK K
    exact Walk.weaken _ (by simp [c696, c1192, c1244, k1249] <;> omega) (by simp [c696, c1192, c1244, k1249] <;> omega) (ih1188 _ (cont_elim hx))
  refine Walk.exit rfl ?_
  obtain ⟨z1251, e1252, hx⟩ := exit_elim hx
  rw [hr1189 z1251 e1252] at hx
  refine Walk.seq (Walk.seq (Walk.region' rfl fun K hK => ?_))
  simp only [go_sem, seval, c696, c1192]
  refine VGdO hx (fun g1253 hx => ?_) (fun g1253 hx => ?_)
  · obtain ⟨v439, h1254, hx⟩ := bind_elim hx
    simp only [go_sem, seval, c696, c1192, g1253]
    refine VCl.sub [(0, some (.box [.d (.sl (List.map iD v1)), .d (.int .i64 v397)]))] [] rfl (by simp only [go_sem, seval, AV.viewXs, AV.viewX, avD, c696, c1192, g1253]; try simp) (mk_Tape_One_ok v1 v397 v4 _ h1254) (by simp [c696, c1192, g1253]) (by simp [c696, c1192, g1253]) (by simp [c696, c1192, g1253]) (by simp [c696, c1192, g1253]) (by simp [c696, c1192, g1253]) (by simp [c696, c1192, g1253]) (by simp [c696, c1192, g1253]) (by simp [c696, c1192, g1253]) (by simp [c696, c1192, g1253]) (by simp [c696, c1192, g1253]) ?_
    simp only [go_sem, seval, c696, c1192, g1253]
    refine hK _ ?_
    clear hK K
    refine Walk.weaken ⟨[(0, .box 0 0), (6, .box 7 0), (7, .box 8 0), (8, .d (.int .i64 v229.1)), (67, .d (.bool v439.1))], [(0, some (.box [.d (.sl (List.map iD v1)), .d (.int .i64 v439.2)])), (7, some (.box [.nils, .nils])), (8, some (.box [.arr 1036 0 v245.length, .arr 1060 0 v398.length])), (1036, some (.arr 3 1 (List.map iD v245))), (1060, some (.arr 47 3 (List.map Row.D v398)))]⟩ (by simp [c696, c1192, g1253] <;> omega) (by simp [c696, c1192, g1253] <;> omega) ?_
    refine Walk.condO rfl hx (fun c1255 hx => ?_) (fun c1255 hx => ?_)
    · refine Walk.seq (Walk.region' rfl fun K hK => ?_)
      obtain ⟨v440, h1256, hx⟩ := bind_elim hx
      simp only [go_sem, seval, c696, c1192, g1253, c1255]
      refine VCl.sub [(0, some (.box [.d (.sl (List.map iD v1)), .d (.int .i64 v439.2)]))] [] rfl (by simp only [go_sem, seval, AV.viewXs, AV.viewX, avD, c696, c1192, g1253, c1255]; try simp) (mk_Tape_Next_ok v1 v439.2 5 _ h1256) (by simp [c696, c1192, g1253, c1255]) (by simp [c696, c1192, g1253, c1255]) (by simp [c696, c1192, g1253, c1255]) (by simp [c696, c1192, g1253, c1255]) (by simp [c696, c1192, g1253, c1255]) (by simp [c696, c1192, g1253, c1255]) (by simp [c696, c1192, g1253, c1255]) (by simp [c696, c1192, g1253, c1255]) (by simp [c696, c1192, g1253, c1255]) (by simp [c696, c1192, g1253, c1255]) ?_
      simp only [go_sem, seval, c696, c1192, g1253, c1255]
      refine hK _ ?_
      clear hK K
      refine Walk.weaken ⟨[(0, .box 0 0), (6, .box 7 0), (7, .box 8 0), (8, .d (.int .i64 v229.1)), (69, .d (.int .i64 v440.1))], [(0, some (.box [.d (.sl (List.map iD v1)), .d (.int .i64 v440.2)])), (7, some (.box [.nils, .nils])), (8, some (.box [.arr 1036 0 v245.length, .arr 1060 0 v398.length])), (1036, some (.arr 3 1 (List.map iD v245))), (1060, some (.arr 47 3 (List.map Row.D v398)))]⟩ (by simp [c696, c1192, g1253, c1255] <;> omega) (by simp [c696, c1192, g1253, c1255] <;> omega) ?_
      refine Walk.block (Walk.seq (Walk.region' rfl fun K hK => ?_))
      simp only [go_sem, seval, c696, c1192, g1253, c1255]
      refine hK _ ?_
      clear hK K
      refine Walk.condO rfl hx (fun c1257 hx => ?_) (fun c1257 hx => ?_)
      · refine Walk.drawn' rfl mixed fun K hK => ?_
        obtain ⟨v441, h1258, hx⟩ := bind_elim hx
        simp only [go_sem, seval, c696, c1192, g1253, c1255, c1257]
        refine VCl.sub [(0, some (.box [.d (.sl (List.map iD v1)), .d (.int .i64 v440.2)]))] [85] rfl (by simp only [go_sem, seval, AV.viewXs, AV.viewX, avD, c696, c1192, g1253, c1255, c1257]; try simp) (mk_Tape_Pick_ok v1 v440.2 [-1, 10000, 10001] _ h1258) (by simp [c696, c1192, g1253, c1255, c1257]) (by simp [c696, c1192, g1253, c1255, c1257]) (by simp [c696, c1192, g1253, c1255, c1257]) (by simp [c696, c1192, g1253, c1255, c1257]) (by simp [c696, c1192, g1253, c1255, c1257]) (by simp [c696, c1192, g1253, c1255, c1257]) (by simp [c696, c1192, g1253, c1255, c1257]) (by simp [c696, c1192, g1253, c1255, c1257]) (by simp [c696, c1192, g1253, c1255, c1257]) (by simp [c696, c1192, g1253, c1255, c1257]) ?_
        obtain ⟨k1259, hx⟩ := chk_elim hx
        simp only [go_sem, seval, c696, c1192, g1253, c1255, c1257, k1259]
        repeat refine And.intro (by first | omega | (simp; done) | (simp; omega)) ?_
        refine hK _ _ (by kernel_rfl) (by simp [c696, c1192, g1253, c1255, c1257, k1259]) ?_
        clear hK K
        refine Walk.weaken ⟨[(6, .box 7 0), (7, .box 8 0)], [(0, some (.box [.d (.sl (List.map iD v1)), .d (.int .i64 v441.2)])), (7, some (.box [.nils, .nils])), (8, some (.box [.arr 1036 0 ((v245 ++ [v441.1]).length), .arr 1060 0 v398.length])), (1036, some (.arr 3 1 (List.map iD (v245 ++ [v441.1])))), (1060, some (.arr 47 3 (List.map Row.D v398)))]⟩ (by simp [c696, c1192, g1253, c1255, c1257, k1259] <;> omega) (by simp [c696, c1192, g1253, c1255, c1257, k1259] <;> omega) ?_
        refine Walk.inBlock (Walk.seq (Walk.region' rfl fun K hK => ?_))
        simp only [go_sem, seval, c696, c1192, g1253, c1255, c1257, k1259]
        refine hK _ ?_
        clear hK K
        refine Walk.weaken ⟨[(6, .box 7 0)], [(0, some (.box [.d (.sl (List.map iD v1)), .d (.int .i64 v441.2)])), (7, some (.box [.arr 1036 0 ((v245 ++ [v441.1]).length), .arr 1060 0 v398.length])), (1036, some (.arr 3 1 (List.map iD (v245 ++ [v441.1])))), (1060, some (.arr 47 3 (List.map Row.D v398)))]⟩ (by simp [c696, c1192, g1253, c1255, c1257, k1259] <;> omega) (by simp [c696, c1192, g1253, c1255, c1257, k1259] <;> omega) ?_
        refine Walk.rename 7 2000 (by omega) (by omega) (by simp) (by simp) ?_
        simp only [renE, renL, AV.ren, AV.rens, AObj.ren, swp, Option.map_some, reduceIte, Nat.reduceEqDiff]
        refine Walk.rename 1036 2001 (by omega) (by omega) (by simp) (by simp) ?_
        simp only [renE, renL, AV.ren, AV.rens, AObj.ren, swp, Option.map_some, reduceIte, Nat.reduceEqDiff]
        refine Walk.rename 1060 2002 (by omega) (by omega) (by simp) (by simp) ?_
        simp only [renE, renL, AV.ren, AV.rens, AObj.ren, swp, Option.map_some, reduceIte, Nat.reduceEqDiff]
        obtain rfl := Option.some.inj hx
        exact Walk.ret ⟨2000, 0, by simp, by simp, by simp [c696, c1192, g1253, c1255, c1257, k1259], by simp [c696, c1192, g1253, c1255, c1257, k1259]⟩
      refine Walk.seq (Walk.region' rfl fun K hK => ?_)
      simp only [go_sem, seval, c696, c1192, g1253, c1255, c1257]
      refine hK _ ?_
      clear hK K
      refine Walk.condO rfl hx (fun c1260 hx => ?_) (fun c1260 hx => ?_)
      · refine Walk.drawn' rfl mixed fun K hK => ?_
        obtain ⟨k1261, hx⟩ := chk_elim hx
        obtain ⟨v442, h1262, hx⟩ := bind_elim hx
        simp only [go_sem, seval, c696, c1192, g1253, c1255, c1257, c1260, k1261]
        repeat refine And.intro (by first | omega | (simp; done) | (simp; omega)) ?_
        refine VCl.sub [(0, some (.box [.d (.sl (List.map iD v1)), .d (.int .i64 v440.2)]))] [] rfl (by simp only [go_sem, seval, AV.viewXs, AV.viewX, avD, c696, c1192, g1253, c1255, c1257, c1260, k1261]; try simp) (mk_Tape_Wild_ok v1 v440.2 _ h1262) (by simp [c696, c1192, g1253, c1255, c1257, c1260, k1261]) (by simp [c696, c1192, g1253, c1255, c1257, c1260, k1261]) (by simp [c696, c1192, g1253, c1255, c1257, c1260, k1261]) (by simp [c696, c1192, g1253, c1255, c1257, c1260, k1261]) (by simp [c696, c1192, g1253, c1255, c1257, c1260, k1261]) (by simp [c696, c1192, g1253, c1255, c1257, c1260, k1261]) (by simp [c696, c1192, g1253, c1255, c1257, c1260, k1261]) (by simp [c696, c1192, g1253, c1255, c1257, c1260, k1261]) (by simp [c696, c1192, g1253, c1255, c1257, c1260, k1261]) (by simp [c696, c1192, g1253, c1255, c1257, c1260, k1261]) ?_
        obtain ⟨v443, h1263, hx⟩ := bind_elim hx
        simp only [go_sem, seval, c696, c1192, g1253, c1255, c1257, c1260, k1261]
        refine VCl.sub [(0, some (.box [.d (.sl (List.map iD v1)), .d (.int .i64 v442.2)]))] [] rfl (by simp only [go_sem, seval, AV.viewXs, AV.viewX, avD, c696, c1192, g1253, c1255, c1257, c1260, k1261]; try simp) (mk_Tape_Wild_ok v1 v442.2 _ h1263) (by simp [c696, c1192, g1253, c1255, c1257, c1260, k1261]) (by simp [c696, c1192, g1253, c1255, c1257, c1260, k1261]) (by simp [c696, c1192, g1253, c1255, c1257, c1260, k1261]) (by simp [c696, c1192, g1253, c1255, c1257, c1260, k1261]) (by simp [c696, c1192, g1253, c1255, c1257, c1260, k1261]) (by simp [c696, c1192, g1253, c1255, c1257, c1260, k1261]) (by simp [c696, c1192, g1253, c1255, c1257, c1260, k1261]) (by simp [c696, c1192, g1253, c1255, c1257, c1260, k1261]) (by simp [c696, c1192, g1253, c1255, c1257, c1260, k1261]) (by simp [c696, c1192, g1253, c1255, c1257, c1260, k1261]) ?_
        obtain ⟨k1264, hx⟩ := chk_elim hx
        simp only [go_sem, seval, c696, c1192, g1253, c1255, c1257, c1260, k1261, k1264]
        repeat refine And.intro (by first | omega | (simp; done) | (simp; omega)) ?_
        refine hK _ _ (by kernel_rfl) (by simp [c696, c1192, g1253, c1255, c1257, c1260, k1261, k1264]) ?_
        clear hK K
        refine Walk.weaken ⟨[(6, .box 7 0), (7, .box 8 0)], [(0, some (.box [.d (.sl (List.map iD v1)), .d (.int .i64 v443.2)])), (7, some (.box [.nils, .nils])), (8, some (.box [.arr 1036 0 v245.length, .arr 1060 0 (((v398 ++ [(Row.mk ((List.replicate (v229.1).toNat (0 : Int))) v442.1 v443.1)])).length)])), (1036, some (.arr 3 1 (List.map iD v245))), (1060, some (.arr 47 3 (List.map Row.D ((v398 ++ [(Row.mk ((List.replicate (v229.1).toNat (0 : Int))) v442.1 v443.1)])))))]⟩ (by simp [c696, c1192, g1253, c1255, c1257, c1260, k1261, k1264] <;> omega) (by simp [c696, c1192, g1253, c1255, c1257, c1260, k1261, k1264] <;> omega) ?_
        refine Walk.inBlock (Walk.seq (Walk.region' rfl fun K hK => ?_))
        simp only [go_sem, seval, c696, c1192, g1253, c1255, c1257, c1260, k1261, k1264]
        refine hK _ ?_
        clear hK K
        refine Walk.weaken ⟨[(6, .box 7 0)], [(0, some (.box [.d (.sl (List.map iD v1)), .d (.int .i64 v443.2)])), (7, some (.box [.arr 1036 0 v245.length, .arr 1060 0 (((v398 ++ [(Row.mk ((List.replicate (v229.1).toNat (0 : Int))) v442.1 v443.1)])).length)])), (1036, some (.arr 3 1 (List.map iD v245))), (1060, some (.arr 47 3 (List.map Row.D ((v398 ++ [(Row.mk ((List.replicate (v229.1).toNat (0 : Int))) v442.1 v443.1)])))))]⟩ (by simp [c696, c1192, g1253, c1255, c1257, c1260, k1261, k1264] <;> omega) (by simp [c696, c1192, g1253, c1255, c1257, c1260, k1261, k1264] <;> omega) ?_
        refine Walk.rename 7 2000 (by omega) (by omega) (by simp) (by simp) ?_
        simp only [renE, renL, AV.ren, AV.rens, AObj.ren, swp, Option.map_some, reduceIte, Nat.reduceEqDiff]
        refine Walk.rename 1036 2001 (by omega) (by omega) (by simp) (by simp) ?_
        simp only [renE, renL, AV.ren, AV.rens, AObj.ren, swp, Option.map_some, reduceIte, Nat.reduceEqDiff]
        refine Walk.rename 1060 2002 (by omega) (by omega) (by simp) (by simp) ?_
        simp only [renE, renL, AV.ren, AV.rens, AObj.ren, swp, Option.map_some, reduceIte, Nat.reduceEqDiff]
        obtain rfl := Option.some.inj hx
        exact Walk.ret ⟨2000, 0, by simp, by simp, by simp [c696, c1192, g1253, c1255, c1257, c1260, k1261, k1264], by simp [c696, c1192, g1253, c1255, c1257, c1260, k1261, k1264]⟩
      refine Walk.seq (Walk.region' rfl fun K hK => ?_)
      simp only [go_sem, seval, c696, c1192, g1253, c1255, c1257, c1260]
      refine hK _ ?_
      clear hK K
      refine Walk.condO rfl hx (fun c1265 hx => ?_) (fun c1265 hx => ?_)
      · refine Walk.drawn' rfl mixed fun K hK => ?_
        obtain ⟨k1266, hx⟩ := chk_elim hx
        obtain ⟨k1267, hx⟩ := chk_elim hx
        simp only [go_sem, seval, c696, c1192, g1253, c1255, c1257, c1260, c1265, k1266, k1267]
        repeat refine And.intro (by first | omega | (simp; done) | (simp; omega)) ?_
        refine hK _ _ (by kernel_rfl) (by simp [c696, c1192, g1253, c1255, c1257, c1260, c1265, k1266, k1267]) ?_
        clear hK K
        refine Walk.weaken ⟨[(6, .box 7 0), (7, .box 8 0)], [(0, some (.box [.d (.sl (List.map iD v1)), .d (.int .i64 v440.2)])), (7, some (.box [.nils, .nils])), (8, some (.box [.arr 1036 0 v245.length, .arr 1060 0 (((v398 ++ [(Row.mk ((List.replicate (IntKind.i64.wrap (v229.1 + 1)).toNat (0 : Int))) 0 0)])).length)])), (1036, some (.arr 3 1 (List.map iD v245))), (1060, some (.arr 47 3 (List.map Row.D ((v398 ++ [(Row.mk ((List.replicate (IntKind.i64.wrap (v229.1 + 1)).toNat (0 : Int))) 0 0)])))))]⟩ (by simp [c696, c1192, g1253, c1255, c1257, c1260, c1265, k1266, k1267] <;> omega) (by simp [c696, c1192, g1253, c1255, c1257, c1260, c1265, k1266, k1267] <;> omega) ?_
        refine Walk.inBlock (Walk.seq (Walk.region' rfl fun K hK => ?_))
        simp only [go_sem, seval, c696, c1192, g1253, c1255, c1257, c1260, c1265, k1266, k1267]
        refine hK _ ?_
        clear hK K
        refine Walk.weaken ⟨[(6, .box 7 0)], [(0, some (.box [.d (.sl (List.map iD v1)), .d (.int .i64 v440.2)])), (7, some (.box [.arr 1036 0 v245.length, .arr 1060 0 (((v398 ++ [(Row.mk ((List.replicate (IntKind.i64.wrap (v229.1 + 1)).toNat (0 : Int))) 0 0)])).length)])), (1036, some (.arr 3 1 (List.map iD v245))), (1060, some (.arr 47 3 (List.map Row.D ((v398 ++ [(Row.mk ((List.replicate (IntKind.i64.wrap (v229.1 + 1)).toNat (0 : Int))) 0 0)])))))]⟩ (by simp [c696, c1192, g1253, c1255, c1257, c1260, c1265, k1266, k1267] <;> omega) (by simp [c696, c1192, g1253, c1255, c1257, c1260, c1265, k1266, k1267] <;> omega) ?_
        refine Walk.rename 7 2000 (by omega) (by omega) (by simp) (by simp) ?_
        simp only [renE, renL, AV.ren, AV.rens, AObj.ren, swp, Option.map_some, reduceIte, Nat.reduceEqDiff]
        refine Walk.rename 1036 2001 (by omega) (by omega) (by simp) (by simp) ?_
        simp only [renE, renL, AV.ren, AV.rens, AObj.ren, swp, Option.map_some, reduceIte, Nat.reduceEqDiff]
        refine Walk.rename 1060 2002 (by omega) (by omega) (by simp) (by simp) ?_
        simp only [renE, renL, AV.ren, AV.rens, AObj.ren, swp, Option.map_some, reduceIte, Nat.reduceEqDiff]
        obtain rfl := Option.some.inj hx
        exact Walk.ret ⟨2000, 0, by simp, by simp, by simp [c696, c1192, g1253, c1255, c1257, c1260, c1265, k1266, k1267], by simp [c696, c1192, g1253, c1255, c1257, c1260, c1265, k1266, k1267]⟩
      refine Walk.seq (Walk.region' rfl fun K hK => ?_)
      simp only [go_sem, seval, c696, c1192, g1253, c1255, c1257, c1260, c1265]
      refine hK _ ?_
      clear hK K
      refine Walk.condO rfl hx (fun c1268 hx => ?_) (fun c1268 hx => ?_)
      · refine Walk.seq (Walk.region' rfl fun K hK => ?_)
        obtain ⟨k1269, hx⟩ := chk_elim hx
        simp only [go_sem, seval, c696, c1192, g1253, c1255, c1257, c1260, c1265, c1268, k1269]
        repeat refine And.intro (by first | omega | (simp; done) | (simp; omega)) ?_
        refine hK _ ?_
        clear hK K
        refine Walk.weaken ⟨[(0, .box 0 0), (6, .box 7 0), (7, .box 8 0), (8, .d (.int .i64 v229.1)), (13, .arr 118 0 (((List.replicate (v229.1).toNat (0 : Int))).length))], [(0, some (.box [.d (.sl (List.map iD v1)), .d (.int .i64 v440.2)])), (7, some (.box [.nils, .nils])), (8, some (.box [.arr 1036 0 v245.length, .arr 1060 0 v398.length])), (118, some (.arr 3 1 (List.map iD ((List.replicate (v229.1).toNat (0 : Int)))))), (1036, some (.arr 3 1 (List.map iD v245))), (1060, some (.arr 47 3 (List.map Row.D v398)))]⟩ (by simp [c696, c1192, g1253, c1255, c1257, c1260, c1265, c1268, k1269] <;> omega) (by simp [c696, c1192, g1253, c1255, c1257, c1260, c1265, c1268, k1269] <;> omega) ?_
        refine Walk.seq (Walk.join (G := Int × List Int) (fun g => ⟨[(6, .box 7 0), (7, .box 8 0), (13, .arr 118 0 g.2.length)], [(0, some (.box [.d (.sl (List.map iD v1)), .d (.int .i64 g.1)])), (7, some (.box [.nils, .nils])), (8, some (.box [.arr 1036 0 v245.length, .arr 1060 0 v398.length])), (118, some (.arr 3 1 (List.map iD g.2))), (1036, some (.arr 3 1 (List.map iD v245))), (1060, some (.arr 47 3 (List.map Row.D v398)))]⟩) (fun g => mk_Tape_Program_j3 v398 v245 g.1 g.2) hx (fun g hx => ?_) (fun fin1278 => ?_))
        · obtain ⟨v446, v447⟩ := g
          unfold mk_Tape_Program_j3 at hx
          try dsimp only at hx ⊢
          refine Walk.region' rfl fun K hK => ?_
          obtain ⟨k1279, hx⟩ := chk_elim hx
          simp only [go_sem, seval, c696, c1192, g1253, c1255, c1257, c1260, c1265, c1268, k1269, k1279]
          repeat refine And.intro (by first | omega | (simp; done) | (simp; omega)) ?_
          refine hK _ ?_
          clear hK K
          refine Walk.weaken ⟨[(6, .box 7 0), (7, .box 8 0)], [(0, some (.box [.d (.sl (List.map iD v1)), .d (.int .i64 v446)])), (7, some (.box [.nils, .nils])), (8, some (.box [.arr 1036 0 v245.length, .arr 1060 0 (((v398 ++ [(Row.mk v447 0 1000000)])).length)])), (1036, some (.arr 3 1 (List.map iD v245))), (1060, some (.arr 47 3 (List.map Row.D ((v398 ++ [(Row.mk v447 0 1000000)])))))]⟩ (by simp [c696, c1192, g1253, c1255, c1257, c1260, c1265, c1268, k1269, k1279] <;> omega) (by simp [c696, c1192, g1253, c1255, c1257, c1260, c1265, c1268, k1269, k1279] <;> omega) ?_
          refine Walk.inBlock (Walk.seq (Walk.region' rfl fun K hK => ?_))
          simp only [go_sem, seval, c696, c1192, g1253, c1255, c1257, c1260, c1265, c1268, k1269, k1279]
          refine hK _ ?_
          clear hK K
          refine Walk.weaken ⟨[(6, .box 7 0)], [(0, some (.box [.d (.sl (List.map iD v1)), .d (.int .i64 v446)])), (7, some (.box [.arr 1036 0 v245.length, .arr 1060 0 (((v398 ++ [(Row.mk v447 0 1000000)])).length)])), (1036, some (.arr 3 1 (List.map iD v245))), (1060, some (.arr 47 3 (List.map Row.D ((v398 ++ [(Row.mk v447 0 1000000)])))))]⟩ (by simp [c696, c1192, g1253, c1255, c1257, c1260, c1265, c1268, k1269, k1279] <;> omega) (by simp [c696, c1192, g1253, c1255, c1257, c1260, c1265, c1268, k1269, k1279] <;> omega) ?_
          refine Walk.rename 7 2000 (by omega) (by omega) (by simp) (by simp) ?_
          simp only [renE, renL, AV.ren, AV.rens, AObj.ren, swp, Option.map_some, reduceIte, Nat.reduceEqDiff]
          refine Walk.rename 1036 2001 (by omega) (by omega) (by simp) (by simp) ?_
          simp only [renE, renL, AV.ren, AV.rens, AObj.ren, swp, Option.map_some, reduceIte, Nat.reduceEqDiff]
          refine Walk.rename 1060 2002 (by omega) (by omega) (by simp) (by simp) ?_
          simp only [renE, renL, AV.ren, AV.rens, AObj.ren, swp, Option.map_some, reduceIte, Nat.reduceEqDiff]
          obtain rfl := Option.some.inj hx
          exact Walk.ret ⟨2000, 0, by simp, by simp, by simp [c696, c1192, g1253, c1255, c1257, c1260, c1265, c1268, k1269, k1279], by simp [c696, c1192, g1253, c1255, c1257, c1260, c1265, c1268, k1269, k1279]⟩
        refine Walk.seq (Walk.region' rfl fun K hK => ?_)
        simp only [go_sem, seval, c696, c1192, g1253, c1255, c1257, c1260, c1265, c1268, k1269]
        refine hK _ ?_
        clear hK K
        refine Walk.condO rfl hx (fun c1280 hx => ?_) (fun c1280 hx => ?_)
        · refine Walk.region' rfl fun K hK => ?_
          obtain ⟨v448, h1281, hx⟩ := bind_elim hx
          simp only [go_sem, seval, c696, c1192, g1253, c1255, c1257, c1260, c1265, c1268, k1269, c1280]
          refine VCl.sub [(0, some (.box [.d (.sl (List.map iD v1)), .d (.int .i64 v440.2)]))] [123] rfl (by simp only [go_sem, seval, AV.viewXs, AV.viewX, avD, c696, c1192, g1253, c1255, c1257, c1260, c1265, c1268, k1269, c1280]; try simp) (mk_Tape_Pick_ok v1 v440.2 [10000, 10001, -10000, -10001] _ h1281) (by simp [c696, c1192, g1253, c1255, c1257, c1260, c1265, c1268, k1269, c1280]) (by simp [c696, c1192, g1253, c1255, c1257, c1260, c1265, c1268, k1269, c1280]) (by simp [c696, c1192, g1253, c1255, c1257, c1260, c1265, c1268, k1269, c1280]) (by simp [c696, c1192, g1253, c1255, c1257, c1260, c1265, c1268, k1269, c1280]) (by simp [c696, c1192, g1253, c1255, c1257, c1260, c1265, c1268, k1269, c1280]) (by simp [c696, c1192, g1253, c1255, c1257, c1260, c1265, c1268, k1269, c1280]) (by simp [c696, c1192, g1253, c1255, c1257, c1260, c1265, c1268, k1269, c1280]) (by simp [c696, c1192, g1253, c1255, c1257, c1260, c1265, c1268, k1269, c1280]) (by simp [c696, c1192, g1253, c1255, c1257, c1260, c1265, c1268, k1269, c1280]) (by simp [c696, c1192, g1253, c1255, c1257, c1260, c1265, c1268, k1269, c1280]) ?_
          obtain ⟨v449, r1282, a1283, b1284, c1285, hx⟩ := rd_elim hx
          have q1286 := b1284
          try simp only [List.length_replicate, List.length_set] at q1286
          have q1287 := b1284
          try simp only [List.length_replicate, List.length_set, Int.reduceToNat] at q1287
          simp only [go_sem, seval, c696, c1192, g1253, c1255, c1257, c1260, c1265, c1268, k1269, c1280, a1283, b1284, c1285, q1286, q1287]
          repeat refine And.intro (by first | omega | (simp; done) | (simp; omega)) ?_
          refine hK _ ?_
          clear hK K
          refine Walk.weaken ⟨[(6, .box 7 0), (7, .box 8 0), (13, .arr 118 0 (((((List.replicate (v229.1).toNat (0 : Int))).set 0 v448.1)).length))], [(0, some (.box [.d (.sl (List.map iD v1)), .d (.int .i64 v448.2)])), (7, some (.box [.nils, .nils])), (8, some (.box [.arr 1036 0 v245.length, .arr 1060 0 v398.length])), (118, some (.arr 3 1 (List.map iD ((((List.replicate (v229.1).toNat (0 : Int))).set 0 v448.1))))), (1036, some (.arr 3 1 (List.map iD v245))), (1060, some (.arr 47 3 (List.map Row.D v398)))]⟩ (by simp [c696, c1192, g1253, c1255, c1257, c1260, c1265, c1268, k1269, c1280, a1283, b1284, c1285, q1286, q1287] <;> omega) (by simp [c696, c1192, g1253, c1255, c1257, c1260, c1265, c1268, k1269, c1280, a1283, b1284, c1285, q1286, q1287] <;> omega) ?_
          exact Walk.weaken _ (by simp [c696, c1192, g1253, c1255, c1257, c1260, c1265, c1268, k1269, c1280, a1283, b1284, c1285, q1286, q1287] <;> omega) (by simp [c696, c1192, g1253, c1255, c1257, c1260, c1265, c1268, k1269, c1280, a1283, b1284, c1285, q1286, q1287] <;> omega) (fin1278 (v448.2, (((List.replicate (v229.1).toNat (0 : Int))).set 0 v448.1)) hx)
        refine Walk.skip ?_
        exact Walk.weaken _ (by simp [c696, c1192, g1253, c1255, c1257, c1260, c1265, c1268, k1269, c1280] <;> omega) (by simp [c696, c1192, g1253, c1255, c1257, c1260, c1265, c1268, k1269, c1280] <;> omega) (fin1278 (v440.2, (List.replicate (v229.1).toNat (0 : Int))) hx)
      refine Walk.seq (Walk.region' rfl fun K hK => ?_)
      simp only [go_sem, seval, c696, c1192, g1253, c1255, c1257, c1260, c1265, c1268]
      refine hK _ ?_
      clear hK K
      refine Walk.block (Walk.loop ?_)
      refine Walk.weaken ⟨[(6, .box 7 0), (7, .box 8 0), (14, .d (.int .i64 0))], [(0, some (.box [.d (.sl (List.map iD v1)), .d (.int .i64 v440.2)])), (7, some (.box [.nils, .nils])), (8, some (.box [.arr 1036 0 v245.length, .arr 1060 0 v398.length])), (1036, some (.arr 3 1 (List.map iD v245))), (1060, some (.arr 47 3 (List.map Row.D v398)))]⟩ (by simp [c696, c1192, g1253, c1255, c1257, c1260, c1265, c1268] <;> omega) (by simp [c696, c1192, g1253, c1255, c1257, c1260, c1265, c1268] <;> omega) ?_
      refine Walk.iter (σ := Int × List Int) (fun g => ⟨[(6, .box 7 0), (7, .box 8 0), (14, .d (.int .i64 g.1))], [(0, some (.box [.d (.sl (List.map iD v1)), .d (.int .i64 v440.2)])), (7, some (.box [.nils, .nils])), (8, some (.box [.arr 1036 0 g.2.length, .arr 1060 0 v398.length])), (1036, some (.arr 3 1 (List.map iD g.2))), (1060, some (.arr 47 3 (List.map Row.D v398)))]⟩) (fun g : Int × List Int => mk_Tape_Program_l4 v440 v398 g.1 g.2) _ (fun g y1301 hx ih1293 hr1294 => ?_) (0, v245) hx
      obtain ⟨v450, v451⟩ := g
      unfold mk_Tape_Program_l4 at hx
      try dsimp only at hx ⊢
      refine Walk.seq (Walk.seq (Walk.region' rfl fun K hK => ?_))
      simp only [go_sem, seval, c696, c1192, g1253, c1255, c1257, c1260, c1265, c1268]
      refine hK _ ?_
      clear hK K
      refine Walk.condO rfl hx (fun c1297 hx => ?_) (fun c1297 hx => ?_)
      · refine Walk.skip (Walk.seq (Walk.block (Walk.region' rfl fun K hK => ?_)))
        obtain ⟨k1298, hx⟩ := chk_elim hx
        simp only [go_sem, seval, c696, c1192, g1253, c1255, c1257, c1260, c1265, c1268, c1297, k1298]
        repeat refine And.intro (by first | omega | (simp; done) | (simp; omega)) ?_
        refine hK _ ?_
        clear hK K
        refine Walk.weaken ⟨[(6, .box 7 0), (7, .box 8 0), (14, .d (.int .i64 v450))], [(0, some (.box [.d (.sl (List.map iD v1)), .d (.int .i64 v440.2)])), (7, some (.box [.nils, .nils])), (8, some (.box [.arr 1036 0 ((v451 ++ [1]).length), .arr 1060 0 v398.length])), (1036, some (.arr 3 1 (List.map iD (v451 ++ [1])))), (1060, some (.arr 47 3 (List.map Row.D v398)))]⟩ (by simp [c696, c1192, g1253, c1255, c1257, c1260, c1265, c1268, c1297, k1298] <;> omega) (by simp [c696, c1192, g1253, c1255, c1257, c1260, c1265, c1268, c1297, k1298] <;> omega) ?_
        refine Walk.inBlock (Walk.region' rfl fun K hK => ?_)
        simp only [go_sem, seval, c696, c1192, g1253, c1255, c1257, c1260, c1265, c1268, c1297, k1298]
        refine hK _ ?_
        clear hK K
        exact Walk.weaken _ (by simp [c696, c1192, g1253, c1255, c1257, c1260, c1265, c1268, c1297, k1298] <;> omega) (by simp [c696, c1192, g1253, c1255, c1257, c1260, c1265, c1268, c1297, k1298] <;> omega) (ih1293 _ (cont_elim hx))
      refine Walk.exit rfl ?_
      obtain ⟨z1299, e1300, hx⟩ := exit_elim hx
      rw [hr1294 z1299 e1300] at hx
      refine Walk.inBlock (Walk.seq (Walk.region' rfl fun K hK => ?_))
      simp only [go_sem, seval, c696, c1192, g1253, c1255, c1257, c1260, c1265, c1268, c1297]
      refine hK _ ?_
      clear hK K
      refine Walk.weaken ⟨[(6, .box 7 0)], [(0, some (.box [.d (.sl (List.map iD v1)), .d (.int .i64 v440.2)])), (7, some (.box [.arr 1036 0 v451.length, .arr 1060 0 v398.length])), (1036, some (.arr 3 1 (List.map iD v451))), (1060, some (.arr 47 3 (List.map Row.D v398)))]⟩ (by simp [c696, c1192, g1253, c1255, c1257, c1260, c1265, c1268, c1297] <;> omega) (by simp [c696, c1192, g1253, c1255, c1257, c1260, c1265, c1268, c1297] <;> omega) ?_
      refine Walk.rename 7 2000 (by omega) (by omega) (by simp) (by simp) ?_
      simp only [renE, renL, AV.ren, AV.rens, AObj.ren, swp, Option.map_some, reduceIte, Nat.reduceEqDiff]
      refine Walk.rename 1036 2001 (by omega) (by omega) (by simp) (by simp) ?_
      simp only [renE, renL, AV.ren, AV.rens, AObj.ren, swp, Option.map_some, reduceIte, Nat.reduceEqDiff]
      refine Walk.rename 1060 2002 (by omega) (by omega) (by simp) (by simp) ?_
      simp only [renE, renL, AV.ren, AV.rens, AObj.ren, swp, Option.map_some, reduceIte, Nat.reduceEqDiff]
      obtain rfl := Option.some.inj hx
      exact Walk.ret ⟨2000, 0, by simp, by simp, by simp [c696, c1192, g1253, c1255, c1257, c1260, c1265, c1268, c1297], by simp [c696, c1192, g1253, c1255, c1257, c1260, c1265, c1268, c1297]⟩
    refine Walk.skip (Walk.seq (Walk.region' rfl fun K hK => ?_))
    simp only [go_sem, seval, c696, c1192, g1253, c1255]
    refine hK _ ?_
    clear hK K
    refine Walk.weaken ⟨[(6, .box 7 0)], [(0, some (.box [.d (.sl (List.map iD v1)), .d (.int .i64 v439.2)])), (7, some (.box [.arr 1036 0 v245.length, .arr 1060 0 v398.length])), (1036, some (.arr 3 1 (List.map iD v245))), (1060, some (.arr 47 3 (List.map Row.D v398)))]⟩ (by simp [c696, c1192, g1253, c1255] <;> omega) (by simp [c696, c1192, g1253, c1255] <;> omega) ?_
    refine Walk.rename 7 2000 (by omega) (by omega) (by simp) (by simp) ?_
    simp only [renE, renL, AV.ren, AV.rens, AObj.ren, swp, Option.map_some, reduceIte, Nat.reduceEqDiff]
    refine Walk.rename 1036 2001 (by omega) (by omega) (by simp) (by simp) ?_
    simp only [renE, renL, AV.ren, AV.rens, AObj.ren, swp, Option.map_some, reduceIte, Nat.reduceEqDiff]
    refine Walk.rename 1060 2002 (by omega) (by omega) (by simp) (by simp) ?_
    simp only [renE, renL, AV.ren, AV.rens, AObj.ren, swp, Option.map_some, reduceIte, Nat.reduceEqDiff]
    obtain rfl := Option.some.inj hx
    exact Walk.ret ⟨2000, 0, by simp, by simp, by simp [c696, c1192, g1253, c1255], by simp [c696, c1192, g1253, c1255]⟩
  simp only [go_sem, seval, c696, c1192, g1253]
  refine hK _ ?_
  clear hK K
  refine Walk.condF rfl (Walk.skip (Walk.seq (Walk.region' rfl fun K hK => ?_)))
  simp only [go_sem, seval, c696, c1192, g1253]
  refine hK _ ?_
  clear hK K
  refine Walk.weaken ⟨[(6, .box 7 0)], [(0, some (.box [.d (.sl (List.map iD v1)), .d (.int .i64 v397)])), (7, some (.box [.arr 1036 0 v245.length, .arr 1060 0 v398.length])), (1036, some (.arr 3 1 (List.map iD v245))), (1060, some (.arr 47 3 (List.map Row.D v398)))]⟩ (by simp [c696, c1192, g1253] <;> omega) (by simp [c696, c1192, g1253] <;> omega) ?_
  refine Walk.rename 7 2000 (by omega) (by omega) (by simp) (by simp) ?_
  simp only [renE, renL, AV.ren, AV.rens, AObj.ren, swp, Option.map_some, reduceIte, Nat.reduceEqDiff]
  refine Walk.rename 1036 2001 (by omega) (by omega) (by simp) (by simp) ?_
  simp only [renE, renL, AV.ren, AV.rens, AObj.ren, swp, Option.map_some, reduceIte, Nat.reduceEqDiff]
  refine Walk.rename 1060 2002 (by omega) (by omega) (by simp) (by simp) ?_
  simp only [renE, renL, AV.ren, AV.rens, AObj.ren, swp, Option.map_some, reduceIte, Nat.reduceEqDiff]
  obtain rfl := Option.some.inj hx
  exact Walk.ret ⟨2000, 0, by simp, by simp, by simp [c696, c1192, g1253], by simp [c696, c1192, g1253]⟩
end Go.AX

