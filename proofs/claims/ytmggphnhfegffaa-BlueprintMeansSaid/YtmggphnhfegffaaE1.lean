import Derived.Test.YtmggphnhfegffaaT
set_option linter.unusedVariables false
set_option linter.unusedSimpArgs false
set_option maxRecDepth 20000
set_option maxHeartbeats 4000000
namespace Go.AX
open Go.Proofs
attribute [local simp] take_map_len subE subH eget hget upE upV upH upO_refl upO_box upVs freshE freshH freshO AV.ids AV.idsL ids_box ids_arr frE frV_refl frV_arr frH frO_refl frO_box frVs newOk evalA AV.viewXs AV.viewX AV.viewXP AV.viewXPs AV.viewPs AV.viewP AV.flat AV.flatL D.flat arrsOnly flatObjs newNames subOf closedIn allSome dstOk newOrOld avD avDp zv_i64 zv_u8 zv_bool zv_nils zv_nilp zv_str retAV aLoad cut TI.isAgg nlE nlH nlO_refl nlO_box nlVs nlV_refl nlV_nil iD uD bD tD lD List.map_set ti2 ti3 ti4 ti5 ti6 ti7 ti8 ti9 ti10 ti11 ti12 ti13 ti14 ti15 ti16 ti17 ti18 ti19 ti21 ti22 ti23 ti25 ti26 ti27 ti31 ti32 ti41 ti51 ti52 ti53 ti54 ti56 ti58 ti60 ti61 ti62 ti67 ti68 ti71 ti72 ti79 ti80 ti81 ti82 ti83 ti84 ti85 ti89 ti93 ti94 ti95 ti110 ti124 ti125 ti126 ti127 ti128 ti129 ti130 ti131 ti133 ti134 ti135 ti136 ti137 Row.D TRange.D Ref.D Form.D Part.D TItem.D
attribute [local go_sem] V1_none V1_some V_nil V_move V_assign V_pick V_bin V_un V_extract V_makeFunc V_convert V_nilCheck V_fieldAddr V_field V_load V_store V_indexAddr V_index V_slice V_slice0 V_alloc V_box V_build V_buildSlice V_makeSlice V_len V_min V_max V_append V_call V_guard VGs_some VG_tt VG_ff VG_tf VG_ft VG_u gslot ok fail po so aNew dstOk freshU addLog_none' addLog_some' St.step putL evalA eget hget argE freshE freshO freshH AV.ids AV.idsL AV.ok1 AV.cells ids_box ids_arr liveBox liveArr isArr aPick aBin aUn aExtract aMakeFunc aConvert aNilCheck aFieldAddr aField cut aLen aIndexAddr aMin aMax aIndex bnd isInt aSlice aSlice0 aLoad aAlloc aBox aStore splice aMake updIds newIds zv_i64 zv_u8 zv_bool zv_nils zv_nilp cond_bool cond_int TI.isAgg TK.isSl TK.el okL avDps avDp avD List.map_cons List.map_nil List.append_nil List.nil_append List.cons_append List.length_cons List.length_nil List.take_succ_cons List.take_zero List.drop_succ_cons List.drop_zero List.take_nil List.drop_nil List.headD_cons List.getD_cons_zero List.getD_cons_succ List.mem_cons List.not_mem_nil List.getElem?_cons_zero List.getElem?_cons_succ List.toList_toArray Option.getD_some Option.getD_none Option.bind_some Option.bind_none Option.map_some Option.map_none Option.getD Option.toList Nat.zero_add Nat.add_zero Nat.zero_le Nat.le_refl if_true if_false ite_self true_and and_true false_and and_false true_or or_true false_or or_false not_true_eq_false not_false_eq_true ne_eq cond_true cond_false Bool.true_eq_false Bool.false_eq_true forall_const decide_true decide_false implies_true true_implies and_self or_self Nat.succ_ne_zero Int.toNat_natCast Int.natCast_nonneg List.length_map decide_eq_true_eq AV.views AV.view AV.viewPs AV.viewP arrsOnly newNames List.length_append List.append_assoc Bool.not_true Bool.not_false AV.ok2 aBuild fillR fillP aBuildSlice dense elP aAppend esOf esOfP List.forall_mem_cons forall_eq_or_imp forall_eq zD zDp map_take' map_drop' iD uD bD tD lD iD_len uD_len bD_len tD_len lD_len LB Int.cast_ofNat_Int Int.natCast_zero Int.natCast_one head_len all_len List.head?_cons List.head?_nil Bool.not_not eq_self List.take_length zv_str aConv byteOf isByte map_bcell bytes_all str_map cellsEq cellsP AV.kd Bool.and_true Bool.true_and Bool.and_false Bool.false_and ti2 ti3 ti4 ti5 ti6 ti7 ti8 ti9 ti10 ti11 ti12 ti13 ti14 ti15 ti16 ti17 ti18 ti19 ti21 ti22 ti23 ti25 ti26 ti27 ti31 ti32 ti41 ti51 ti52 ti53 ti54 ti56 ti58 ti60 ti61 ti62 ti67 ti68 ti71 ti72 ti79 ti80 ti81 ti82 ti83 ti84 ti85 ti89 ti93 ti94 ti95 ti110 ti124 ti125 ti126 ti127 ti128 ti129 ti130 ti131 ti133 ti134 ti135 ti136 ti137 Row.D TRange.D Ref.D Form.D Part.D TItem.D Row.D_len TRange.D_len Ref.D_len Form.D_len Part.D_len TItem.D_len zs_ zs_48_49_50_51_52_53_54_55_56_57_48_49_50_51_52_53_54_55_56_57_48_49_50_51_52_53_54_55_56_57_48_49_50_51_52_53_54_55_56_57_120 zs_113 zs_116_97_98_9 eqf85_00
noncomputable def mk_New (v1 : List Int) : Option (List Int) :=
  bif decide ((v1.length : Int) > 600) then (chk (0 ≤ 600 ∧ 600 ≤ (v1.length : Int)) (some (((v1.take 600).drop 0) : List Int))) else (some (v1 : List Int))
theorem mk_New_ok (v1 : List Int) (r : List Int) (hx : mk_New v1 = some r) :
    ACalls Try.prog 12 [.d (.sl (List.map iD v1))] [] (.box 2000 0) [(2000, some (.box [.d (.sl (List.map iD r)), .d (.int .i64 0)]))] := by
  refine ACalls.of_sem (n := 11) 0 [2] (fn := Try.f12) Try.func12 rfl rfl (.one rfl) rfl (by simp) (by intro i; simp only [hget]; (repeat' split) <;> simp <;> omega) ?_
  unfold mk_New at hx
  refine Walk.seq (Walk.region' rfl fun K hK => ?_)
  simp only [go_sem, seval]
  refine hK _ ?_
  clear hK K
  refine Walk.seq (Walk.seq (Walk.region' rfl fun K hK => ?_))
  simp only [go_sem, seval]
  refine hK _ ?_
  clear hK K
  refine Walk.condO rfl hx (fun c3 hx => ?_) (fun c3 hx => ?_)
  · refine Walk.region' rfl fun K hK => ?_
    obtain ⟨k4, hx⟩ := chk_elim hx
    simp only [go_sem, seval, c3, k4]
    repeat refine And.intro (by first | omega | (simp; done) | (simp; omega)) ?_
    refine hK _ ?_
    clear hK K
    refine Walk.weaken ⟨[(0, .d (.sl (List.map iD (((v1.take 600).drop 0)))))], []⟩ (by simp [c3, k4] <;> omega) (by simp [c3, k4] <;> omega) ?_
    refine Walk.seq (Walk.region' rfl fun K hK => ?_)
    simp only [go_sem, seval, c3, k4]
    refine hK _ ?_
    clear hK K
    refine Walk.weaken ⟨[(2, .box 10 0)], [(10, some (.box [.d (.sl (List.map iD (((v1.take 600).drop 0)))), .d (.int .i64 0)]))]⟩ (by simp [c3, k4] <;> omega) (by simp [c3, k4] <;> omega) ?_
    refine Walk.rename 10 2000 (by omega) (by omega) (by simp) (by simp) ?_
    simp only [renE, renL, AV.ren, AV.rens, AObj.ren, swp, Option.map_some, reduceIte, Nat.reduceEqDiff]
    obtain rfl := Option.some.inj hx
    exact Walk.ret ⟨by simp [c3, k4], by simp [c3, k4]⟩
  refine Walk.skip (Walk.seq (Walk.region' rfl fun K hK => ?_))
  simp only [go_sem, seval, c3]
  refine hK _ ?_
  clear hK K
  refine Walk.weaken ⟨[(2, .box 10 0)], [(10, some (.box [.d (.sl (List.map iD v1)), .d (.int .i64 0)]))]⟩ (by simp [c3] <;> omega) (by simp [c3] <;> omega) ?_
  refine Walk.rename 10 2000 (by omega) (by omega) (by simp) (by simp) ?_
  simp only [renE, renL, AV.ren, AV.rens, AObj.ren, swp, Option.map_some, reduceIte, Nat.reduceEqDiff]
  obtain rfl := Option.some.inj hx
  exact Walk.ret ⟨by simp [c3], by simp [c3]⟩
noncomputable def mk_Tape_Raw (v1 : List Int) (v2 : Int) : Option (Int × Int) :=
  bif decide (v2 ≥ (v1.length : Int)) then (some ((0, v2) : Int × Int)) else ((rd v1 (IntKind.i64.wrap ((IntKind.i64.wrap (v2 + 1)) - 1))).bind fun v6 => some ((v6, IntKind.i64.wrap (v2 + 1)) : Int × Int))
theorem mk_Tape_Raw_ok (v1 : List Int) (v2 : Int) (r : Int × Int) (hx : mk_Tape_Raw v1 v2 = some r) :
    ACalls Try.prog 52 [.box 0 0] [(0, some (.box [.d (.sl (List.map iD v1)), .d (.int .i64 v2)]))] (.d (.int .i64 r.1)) [(0, some (.box [.d (.sl (List.map iD v1)), .d (.int .i64 r.2)]))] := by
  refine ACalls.of_sem (n := 31) 1 [2] (fn := Try.f52) Try.func52 rfl rfl (.one rfl) rfl (by simp) (by intro i; simp only [hget]; (repeat' split) <;> simp <;> omega) ?_
  unfold mk_Tape_Raw at hx
  refine Walk.seq (Walk.region' rfl fun K hK => ?_)
  simp only [go_sem, seval]
  refine hK _ ?_
  clear hK K
  refine Walk.seq (Walk.seq (Walk.drawn' rfl mixed fun K hK => ?_))
  simp only [go_sem, seval]
  refine hK _ _ (by kernel_rfl) (by simp) ?_
  clear hK K
  refine Walk.condO rfl hx (fun c10 hx => ?_) (fun c10 hx => ?_)
  · refine Walk.seq (Walk.region' rfl fun K hK => ?_)
    simp only [go_sem, seval, c10]
    refine hK _ ?_
    clear hK K
    obtain rfl := Option.some.inj hx
    exact Walk.ret ⟨by simp [c10], by simp [c10]⟩
  refine Walk.skip (Walk.seq (Walk.region' rfl fun K hK => ?_))
  simp only [go_sem, seval, c10]
  refine hK _ ?_
  clear hK K
  refine Walk.seq (Walk.drawn' rfl mixed fun K hK => ?_)
  obtain ⟨v6, r11, a12, b13, c14, hx⟩ := rd_elim hx
  simp only [go_sem, seval, c10, a12, b13, c14]
  repeat refine And.intro (by first | omega | (simp; done) | (simp; omega)) ?_
  refine hK _ _ (by kernel_rfl) (by simp [c10, a12, b13, c14]) ?_
  clear hK K
  obtain rfl := Option.some.inj hx
  exact Walk.ret ⟨by simp [c10, a12, b13, c14], by simp [c10, a12, b13, c14]⟩
noncomputable def mk_Cut (v1 : Int) (v2 : Int) : Option (Int) :=
  bif decide (v2 < 1) then (some (0 : Int)) else (chk (¬ v2 = 0) (bif decide ((v1.tmod v2) < 0) then (some (IntKind.i64.wrap ((v1.tmod v2) + v2) : Int)) else (some ((v1.tmod v2) : Int))))
theorem mk_Cut_ok (v1 : Int) (v2 : Int) (r : Int) (hx : mk_Cut v1 v2 = some r) :
    ACalls Try.prog 27 [.d (.int .i64 v1), .d (.int .i64 v2)] [] (.d (.int .i64 r)) [] := by
  refine ACalls.of_sem (n := 16) 0 [4] (fn := Try.f27) Try.func27 rfl rfl (.one rfl) rfl (by simp) (by intro i; simp only [hget]; (repeat' split) <;> simp <;> omega) ?_
  unfold mk_Cut at hx
  refine Walk.seq (Walk.region' rfl fun K hK => ?_)
  simp only [go_sem, seval]
  refine hK _ ?_
  clear hK K
  refine Walk.seq (Walk.seq (Walk.region' rfl fun K hK => ?_))
  simp only [go_sem, seval]
  refine hK _ ?_
  clear hK K
  refine Walk.condO rfl hx (fun c8 hx => ?_) (fun c8 hx => ?_)
  · refine Walk.seq (Walk.region' rfl fun K hK => ?_)
    simp only [go_sem, seval, c8]
    refine hK _ ?_
    clear hK K
    obtain rfl := Option.some.inj hx
    exact Walk.ret ⟨by simp [c8], by simp [c8]⟩
  refine Walk.skip (Walk.seq (Walk.region' rfl fun K hK => ?_))
  obtain ⟨k9, hx⟩ := chk_elim hx
  simp only [go_sem, seval, c8, k9]
  repeat refine And.intro (by first | omega | (simp; done) | (simp; omega)) ?_
  refine hK _ ?_
  clear hK K
  refine Walk.seq (Walk.seq (Walk.region' rfl fun K hK => ?_))
  simp only [go_sem, seval, c8, k9]
  refine hK _ ?_
  clear hK K
  refine Walk.condO rfl hx (fun c10 hx => ?_) (fun c10 hx => ?_)
  · refine Walk.region' rfl fun K hK => ?_
    simp only [go_sem, seval, c8, k9, c10]
    refine hK _ ?_
    clear hK K
    refine Walk.seq (Walk.region' rfl fun K hK => ?_)
    simp only [go_sem, seval, c8, k9, c10]
    refine hK _ ?_
    clear hK K
    obtain rfl := Option.some.inj hx
    exact Walk.ret ⟨by simp [c8, k9, c10], by simp [c8, k9, c10]⟩
  refine Walk.skip (Walk.seq (Walk.region' rfl fun K hK => ?_))
  simp only [go_sem, seval, c8, k9, c10]
  refine hK _ ?_
  clear hK K
  obtain rfl := Option.some.inj hx
  exact Walk.ret ⟨by simp [c8, k9, c10], by simp [c8, k9, c10]⟩
noncomputable def mk_Tape_Next (v1 : List Int) (v2 : Int) (v3 : Int) : Option (Int × Int) :=
  (mk_Tape_Raw v1 v2).bind fun v8 => (mk_Cut v8.1 v3).bind fun v9 => some ((v9, v8.2) : Int × Int)
theorem mk_Tape_Next_ok (v1 : List Int) (v2 : Int) (v3 : Int) (r : Int × Int) (hx : mk_Tape_Next v1 v2 v3 = some r) :
    ACalls Try.prog 29 [.box 0 0, .d (.int .i64 v3)] [(0, some (.box [.d (.sl (List.map iD v1)), .d (.int .i64 v2)]))] (.d (.int .i64 r.1)) [(0, some (.box [.d (.sl (List.map iD v1)), .d (.int .i64 r.2)]))] := by
  refine ACalls.of_sem (n := 9) 1 [4] (fn := Try.f29) Try.func29 rfl rfl (.one rfl) rfl (by simp) (by intro i; simp only [hget]; (repeat' split) <;> simp <;> omega) ?_
  unfold mk_Tape_Next at hx
  refine Walk.seq (Walk.region' rfl fun K hK => ?_)
  simp only [go_sem, seval]
  refine hK _ ?_
  clear hK K
  refine Walk.seq (Walk.region' rfl fun K hK => ?_)
  obtain ⟨v8, h3, hx⟩ := bind_elim hx
  simp only [go_sem, seval]
  refine VCl.sub [(0, some (.box [.d (.sl (List.map iD v1)), .d (.int .i64 v2)]))] [] rfl (by simp only [go_sem, seval, AV.viewXs, AV.viewX, avD]; try simp) (mk_Tape_Raw_ok v1 v2 _ h3) (by simp) (by simp) (by simp) (by simp) (by simp) (by simp) (by simp) (by simp) (by simp) (by simp) ?_
  obtain ⟨v9, h4, hx⟩ := bind_elim hx
  simp only [go_sem, seval]
  refine VCl.pure rfl (by simp only [go_sem, seval]; try simp) (mk_Cut_ok v8.1 v3 _ h4) (by simp only [go_sem, seval]; try simp) (by simp only [go_sem, seval]; try simp) (by simp only [go_sem, seval]; try simp) (by simp only [go_sem, seval]; try simp) (by simp only [go_sem, seval]; try simp) (by simp only [go_sem, seval]; try simp) ?_
  simp only [go_sem, seval]
  refine hK _ ?_
  clear hK K
  refine Walk.weaken ⟨[(4, .d (.int .i64 v9))], [(0, some (.box [.d (.sl (List.map iD v1)), .d (.int .i64 v8.2)]))]⟩ (by simp <;> omega) (by simp <;> omega) ?_
  obtain rfl := Option.some.inj hx
  exact Walk.ret ⟨by simp, by simp⟩
noncomputable def mk_Tape_Range (v1 : List Int) (v2 : Int) (v3 : Int) (v4 : Int) : Option (Int × Int) :=
  (mk_Tape_Next v1 v2 (IntKind.i64.wrap ((IntKind.i64.wrap (v4 - v3)) + 1))).bind fun v8 => some ((IntKind.i64.wrap (v3 + v8.1), v8.2) : Int × Int)
theorem mk_Tape_Range_ok (v1 : List Int) (v2 : Int) (v3 : Int) (v4 : Int) (r : Int × Int) (hx : mk_Tape_Range v1 v2 v3 v4 = some r) :
    ACalls Try.prog 19 [.box 0 0, .d (.int .i64 v3), .d (.int .i64 v4)] [(0, some (.box [.d (.sl (List.map iD v1)), .d (.int .i64 v2)]))] (.d (.int .i64 r.1)) [(0, some (.box [.d (.sl (List.map iD v1)), .d (.int .i64 r.2)]))] := by
  refine ACalls.of_sem (n := 15) 1 [6] (fn := Try.f19) Try.func19 rfl rfl (.one rfl) rfl (by simp) (by intro i; simp only [hget]; (repeat' split) <;> simp <;> omega) ?_
  unfold mk_Tape_Range at hx
  refine Walk.seq (Walk.region' rfl fun K hK => ?_)
  simp only [go_sem, seval]
  refine hK _ ?_
  clear hK K
  refine Walk.seq (Walk.region' rfl fun K hK => ?_)
  obtain ⟨v8, h2, hx⟩ := bind_elim hx
  simp only [go_sem, seval]
  refine VCl.sub [(0, some (.box [.d (.sl (List.map iD v1)), .d (.int .i64 v2)]))] [] rfl (by simp only [go_sem, seval, AV.viewXs, AV.viewX, avD]; try simp) (mk_Tape_Next_ok v1 v2 (IntKind.i64.wrap ((IntKind.i64.wrap (v4 - v3)) + 1)) _ h2) (by simp) (by simp) (by simp) (by simp) (by simp) (by simp) (by simp) (by simp) (by simp) (by simp) ?_
  simp only [go_sem, seval]
  refine hK _ ?_
  clear hK K
  refine Walk.weaken ⟨[(6, .d (.int .i64 (IntKind.i64.wrap (v3 + v8.1))))], [(0, some (.box [.d (.sl (List.map iD v1)), .d (.int .i64 v8.2)]))]⟩ (by simp <;> omega) (by simp <;> omega) ?_
  obtain rfl := Option.some.inj hx
  exact Walk.ret ⟨by simp, by simp⟩
noncomputable def mk_Tape_Pick (v1 : List Int) (v2 : Int) (v3 : List Int) : Option (Int × Int) :=
  (mk_Tape_Next v1 v2 (v3.length : Int)).bind fun v8 => (rd v3 v8.1).bind fun v9 => some ((v9, v8.2) : Int × Int)
theorem mk_Tape_Pick_ok (v1 : List Int) (v2 : Int) (v3 : List Int) (r : Int × Int) (hx : mk_Tape_Pick v1 v2 v3 = some r) :
    ACalls Try.prog 44 [.box 0 0, .d (.sl (List.map iD v3))] [(0, some (.box [.d (.sl (List.map iD v1)), .d (.int .i64 v2)]))] (.d (.int .i64 r.1)) [(0, some (.box [.d (.sl (List.map iD v1)), .d (.int .i64 r.2)]))] := by
  refine ACalls.of_sem (n := 12) 1 [4] (fn := Try.f44) Try.func44 rfl rfl (.one rfl) rfl (by simp) (by intro i; simp only [hget]; (repeat' split) <;> simp <;> omega) ?_
  unfold mk_Tape_Pick at hx
  refine Walk.seq (Walk.region' rfl fun K hK => ?_)
  simp only [go_sem, seval]
  refine hK _ ?_
  clear hK K
  refine Walk.seq (Walk.region' rfl fun K hK => ?_)
  obtain ⟨v8, h6, hx⟩ := bind_elim hx
  simp only [go_sem, seval]
  refine VCl.sub [(0, some (.box [.d (.sl (List.map iD v1)), .d (.int .i64 v2)]))] [] rfl (by simp only [go_sem, seval, AV.viewXs, AV.viewX, avD]; try simp) (mk_Tape_Next_ok v1 v2 (v3.length : Int) _ h6) (by simp) (by simp) (by simp) (by simp) (by simp) (by simp) (by simp) (by simp) (by simp) (by simp) ?_
  obtain ⟨v9, r7, a8, b9, c10, hx⟩ := rd_elim hx
  simp only [go_sem, seval, a8, b9, c10]
  repeat refine And.intro (by first | omega | (simp; done) | (simp; omega)) ?_
  refine hK _ ?_
  clear hK K
  refine Walk.weaken ⟨[(4, .d (.int .i64 v9))], [(0, some (.box [.d (.sl (List.map iD v1)), .d (.int .i64 v8.2)]))]⟩ (by simp [a8, b9, c10] <;> omega) (by simp [a8, b9, c10] <;> omega) ?_
  obtain rfl := Option.some.inj hx
  exact Walk.ret ⟨by simp [a8, b9, c10], by simp [a8, b9, c10]⟩
noncomputable def mk_Tape_One (v1 : List Int) (v2 : Int) (v3 : Int) : Option (Bool × Int) :=
  (mk_Tape_Next v1 v2 v3).bind fun v7 => some ((decide (v7.1 = (IntKind.i64.wrap (v3 - 1))), v7.2) : Bool × Int)
theorem mk_Tape_One_ok (v1 : List Int) (v2 : Int) (v3 : Int) (r : Bool × Int) (hx : mk_Tape_One v1 v2 v3 = some r) :
    ACalls Try.prog 15 [.box 0 0, .d (.int .i64 v3)] [(0, some (.box [.d (.sl (List.map iD v1)), .d (.int .i64 v2)]))] (.d (.bool r.1)) [(0, some (.box [.d (.sl (List.map iD v1)), .d (.int .i64 r.2)]))] := by
  refine ACalls.of_sem (n := 11) 1 [4] (fn := Try.f15) Try.func15 rfl rfl (.one rfl) rfl (by simp) (by intro i; simp only [hget]; (repeat' split) <;> simp <;> omega) ?_
  unfold mk_Tape_One at hx
  refine Walk.seq (Walk.region' rfl fun K hK => ?_)
  simp only [go_sem, seval]
  refine hK _ ?_
  clear hK K
  refine Walk.seq (Walk.region' rfl fun K hK => ?_)
  obtain ⟨v7, h2, hx⟩ := bind_elim hx
  simp only [go_sem, seval]
  refine VCl.sub [(0, some (.box [.d (.sl (List.map iD v1)), .d (.int .i64 v2)]))] [] rfl (by simp only [go_sem, seval, AV.viewXs, AV.viewX, avD]; try simp) (mk_Tape_Next_ok v1 v2 v3 _ h2) (by simp) (by simp) (by simp) (by simp) (by simp) (by simp) (by simp) (by simp) (by simp) (by simp) ?_
  simp only [go_sem, seval]
  refine hK _ ?_
  clear hK K
  refine Walk.weaken ⟨[(4, .d (.bool (decide (v7.1 = (IntKind.i64.wrap (v3 - 1))))))], [(0, some (.box [.d (.sl (List.map iD v1)), .d (.int .i64 v7.2)]))]⟩ (by simp <;> omega) (by simp <;> omega) ?_
  obtain rfl := Option.some.inj hx
  exact Walk.ret ⟨by simp, by simp⟩
noncomputable def mk_Tape_Wild (v1 : List Int) (v2 : Int) : Option (Int × Int) :=
  (mk_Tape_Pick v1 v2 [-1, 0, 1, 2, 31, 32, 99, 100, 200, 201, 9999, 10000, 1000000, 1000001, 1152921504606846976, 1152921504606846977, -1152921504606846976, 9223372036854775807, -9223372036854775808]).bind fun v6 => some ((v6.1, v6.2) : Int × Int)
theorem mk_Tape_Wild_ok (v1 : List Int) (v2 : Int) (r : Int × Int) (hx : mk_Tape_Wild v1 v2 = some r) :
    ACalls Try.prog 45 [.box 0 0] [(0, some (.box [.d (.sl (List.map iD v1)), .d (.int .i64 v2)]))] (.d (.int .i64 r.1)) [(0, some (.box [.d (.sl (List.map iD v1)), .d (.int .i64 r.2)]))] := by
  refine ACalls.of_sem (n := 6) 1 [2] (fn := Try.f45) Try.func45 rfl rfl (.one rfl) rfl (by simp) (by intro i; simp only [hget]; (repeat' split) <;> simp <;> omega) ?_
  unfold mk_Tape_Wild at hx
  refine Walk.seq (Walk.region' rfl fun K hK => ?_)
  simp only [go_sem, seval]
  refine hK _ ?_
  clear hK K
  refine Walk.seq (Walk.region' rfl fun K hK => ?_)
  obtain ⟨v6, h2, hx⟩ := bind_elim hx
  simp only [go_sem, seval]
  refine VCl.sub [(0, some (.box [.d (.sl (List.map iD v1)), .d (.int .i64 v2)]))] [5] rfl (by simp only [go_sem, seval, AV.viewXs, AV.viewX, avD]; try simp) (mk_Tape_Pick_ok v1 v2 [-1, 0, 1, 2, 31, 32, 99, 100, 200, 201, 9999, 10000, 1000000, 1000001, 1152921504606846976, 1152921504606846977, -1152921504606846976, 9223372036854775807, -9223372036854775808] _ h2) (by simp) (by simp) (by simp) (by simp) (by simp) (by simp) (by simp) (by simp) (by simp) (by simp) ?_
  simp only [go_sem, seval]
  refine hK _ ?_
  clear hK K
  refine Walk.weaken ⟨[(2, .d (.int .i64 v6.1))], [(0, some (.box [.d (.sl (List.map iD v1)), .d (.int .i64 v6.2)]))]⟩ (by simp <;> omega) (by simp <;> omega) ?_
  obtain rfl := Option.some.inj hx
  exact Walk.ret ⟨by simp, by simp⟩
end Go.AX

