import Derived.Test.YtebcedhhcpibpaaE4
set_option linter.unusedVariables false
set_option linter.unusedSimpArgs false
set_option maxRecDepth 20000
set_option maxHeartbeats 4000000
namespace Go.AX
open Go.Proofs
attribute [local simp] spl_len take_snoc take_cons_drop cons_rep cons_tail iA bA take_set_len idsL_rep idsL_iA idsL_bA idsL_sA idsL_set_mem idsL_sub sA_def List.map_replicate frVs_setS frVs_self frV_arr take_map_len subE subH eget hget upE upV upH upO_refl upO_box upVs freshE freshH freshO AV.ids AV.idsL ids_box ids_arr ids_pre idsL_room frE frV_refl frV_arr frH frO_refl frO_box frVs newOk evalA AV.viewXs AV.viewX AV.viewXP AV.viewXPs AV.viewPs AV.viewP AV.flat AV.flatL D.flat arrsOnly flatObjs newNames subOf closedIn allSome dstOk newOrOld avD avDp zv_i64 zv_u8 zv_bool zv_nils zv_nilp zv_str retAV aLoad cut TI.isAgg nlE nlH nlO_refl nlO_box nlVs nlV_refl nlV_nil iD uD bD tD lD List.map_set ti1 ti2 ti3 ti4 ti5 ti6 ti7 ti8 ti9 ti10 ti11 ti12 ti13 ti14 ti15 ti16 ti17 ti18 ti19 ti21 ti22 ti23 ti24 ti25 ti26 ti27 ti28 ti29 ti30 ti32 ti33 ti34 ti35 ti36 ti37 ti38 ti40 ti41 ti42 ti43 ti44 ti45 ti46 ti47 ti48 ti49 ti50 ti51 ti52 ti54 ti55 ti56 ti57 ti58 ti59 ti61 ti62 ti63 ti64 ti65 ti66 ti67 ti68 ti69 ti70 ti72 ti73 ti74 ti75 ti76 ti77 ti78 ti79 ti80 ti81 ti82 ti83 ti84 ti85 ti86 ti87 ti89 ti91 ti92 ti93 ti94 ti95 ti96 ti97 ti98 ti99 ti100 ti101 ti103 ti105 ti106 ti107 ti108 ti109 ti110 ti111 ti112 ti113 ti114 ti115 ti117 ti118 ti120 ti121 ti122 ti123 ti124 ti125 ti126 ti127 ti128 ti129 ti130 ti131 ti132 ti133 ti134 ti135 ti136 ti137 ti138 ti139 ti140 Row.D Node.D Part.D TItem.D Ref.D
attribute [local go_sem] V1_none V1_some V_nil V_move V_assign V_pick V_bin V_un V_extract V_makeFunc V_convert V_nilCheck V_fieldAddr V_field V_load V_store V_indexAddr V_index V_slice V_slice0 V_alloc V_box V_build V_buildSlice V_makeSlice V_len V_min V_max V_append V_copy V_call V_guard VGs_some VG_tt VG_ff VG_tf VG_ft VG_u gslot ok fail po so aNew dstOk freshU addLog_none' addLog_some' St.step putL evalA eget hget argE freshE freshO freshH AV.ids AV.idsL AV.ok1 AV.cells ids_box ids_arr liveBox liveArr isArr isObj isBoxB aPick isNilC aNilEq aBin aUn aExtract aMakeFunc aConvert aNilCheck aFieldAddr aField cut aLen aIndexAddr aMin aMax aIndex bnd isInt aSlice aSlice0 aLoad aAlloc aBox aStore splice aMake aMakeBox aCopy cellsOf cellsOfP updIds newIds zv_i64 zv_u8 zv_bool zv_nils zv_nilp cond_bool cond_int TI.isAgg TK.isSl TK.el okL avDps avDp avD List.map_cons List.map_nil List.append_nil List.nil_append List.cons_append List.length_cons List.length_nil List.take_succ_cons List.take_zero List.drop_succ_cons List.drop_zero List.take_nil List.drop_nil List.headD_cons List.getD_cons_zero List.getD_cons_succ List.mem_cons List.not_mem_nil List.getElem?_cons_zero List.getElem?_cons_succ List.toList_toArray Option.getD_some Option.getD_none Option.bind_some Option.bind_none Option.map_some Option.map_none Option.getD Option.toList Nat.zero_add Nat.add_zero Nat.zero_le Nat.le_refl if_true if_false ite_self true_and and_true false_and and_false true_or or_true false_or or_false not_true_eq_false not_false_eq_true ne_eq cond_true cond_false Bool.true_eq_false Bool.false_eq_true forall_const decide_true decide_false implies_true true_implies and_self or_self Nat.succ_ne_zero Int.toNat_natCast Int.natCast_nonneg List.length_map decide_eq_true_eq AV.views AV.view AV.viewPs AV.viewP arrsOnly newNames List.length_append List.append_assoc Bool.not_true Bool.not_false AV.ok2 aBuild fillR fillP aBuildSlice dense elP aAppend esOf esOfP List.forall_mem_cons forall_eq_or_imp forall_eq zD zDp map_take' map_drop' iD uD bD tD lD iD_len uD_len bD_len tD_len lD_len LB Int.cast_ofNat_Int Int.natCast_zero Int.natCast_one head_len all_len List.head?_cons List.head?_nil Bool.not_not eq_self List.take_length zv_str aConv byteOf isByte map_bcell bytes_all str_map cellsEq cellsP AV.kd Bool.and_true Bool.true_and Bool.and_false Bool.false_and spl_map spl_len mkbox_i mkbox_b flat_iD dataL_iA dataL_bA zv_u64 flat_iD' flat_len dataL_tA dataL_ttA spl_mt spl_mtt mkbox_s splice_one take_cons_drop cons_rep cons_tail hd_set hd_set0 List.length_replicate iA bA sA_def List.set_set List.length_set idsL_iA idsL_bA idsL_sA idsL_setE idsL_rep List.append_eq Nat.mul_one ids_pre idsL_room appBox_full appBox_room pre_iA one_iD List.flatten_cons List.flatten_nil ti1 ti2 ti3 ti4 ti5 ti6 ti7 ti8 ti9 ti10 ti11 ti12 ti13 ti14 ti15 ti16 ti17 ti18 ti19 ti21 ti22 ti23 ti24 ti25 ti26 ti27 ti28 ti29 ti30 ti32 ti33 ti34 ti35 ti36 ti37 ti38 ti40 ti41 ti42 ti43 ti44 ti45 ti46 ti47 ti48 ti49 ti50 ti51 ti52 ti54 ti55 ti56 ti57 ti58 ti59 ti61 ti62 ti63 ti64 ti65 ti66 ti67 ti68 ti69 ti70 ti72 ti73 ti74 ti75 ti76 ti77 ti78 ti79 ti80 ti81 ti82 ti83 ti84 ti85 ti86 ti87 ti89 ti91 ti92 ti93 ti94 ti95 ti96 ti97 ti98 ti99 ti100 ti101 ti103 ti105 ti106 ti107 ti108 ti109 ti110 ti111 ti112 ti113 ti114 ti115 ti117 ti118 ti120 ti121 ti122 ti123 ti124 ti125 ti126 ti127 ti128 ti129 ti130 ti131 ti132 ti133 ti134 ti135 ti136 ti137 ti138 ti139 ti140 Row.D Node.D Part.D TItem.D Ref.D Row.D_len Node.D_len Part.D_len TItem.D_len Ref.D_len zs_ zs_48_49_50_51_52_53_54_55_56_57_48_49_50_51_52_53_54_55_56_57_48_49_50_51_52_53_54_55_56_57_48_49_50_51_52_53_54_55_56_57_120 zs_113 zs_116_97_98_9 eqf74_00
noncomputable def blueprint_Cost (v1 : List Int) (v2 : List Row) (v3 : List Int) : Option (Int × Bool) :=
  (blueprint_Valid v1 v2).bind fun v13 => bif !v13 then (some ((0, false) : Int × Bool)) else ((blueprint_choice v3 (v1.length : Int)).bind fun v14 => bif !v14 then (some ((0, false) : Int × Bool)) else ((blueprint_sum v1 v3).bind fun v15 => some ((v15, true) : Int × Bool)))
theorem blueprint_Cost_ok (v1 : List Int) (v2 : List Row) (v3 : List Int) (r : Int × Bool) (hx : blueprint_Cost v1 v2 v3 = some r) :
    ACalls Try.prog 31 [.agg [.d (.sl (List.map iD v1)), .d (.sl (List.map Row.D v2))], .d (.sl (List.map iD v3))] [] (.tup [.d (.int .i64 r.1), .d (.bool r.2)]) [] := by
  refine ACalls.of_sem (n := 21) 0 [4, 5] (fn := Try.f31) Try.func31 rfl rfl (.two rfl) rfl (by simp) (by intro i; simp only [hget]; (repeat' split) <;> simp <;> omega) ?_
  unfold blueprint_Cost at hx
  refine Walk.seq (Walk.region' rfl fun K hK => ?_)
  simp only [go_sem, seval]
  refine hK _ ?_
  clear hK K
  refine Walk.seq (Walk.seq (Walk.region' rfl fun K hK => ?_))
  obtain ⟨v13, h15, hx⟩ := bind_elim hx
  simp only [go_sem, seval]
  refine VCl.pure rfl (by simp only [go_sem, seval]; try simp) (blueprint_Valid_ok v1 v2 _ h15) (by simp only [go_sem, seval]; try simp) (by simp only [go_sem, seval]; try simp) (by simp only [go_sem, seval]; try simp) (by simp only [go_sem, seval]; try simp) (by simp only [go_sem, seval]; try simp) (by simp only [go_sem, seval]; try simp) ?_
  simp only [go_sem, seval]
  refine VGdO hx (fun g16 hx => ?_) (fun g16 hx => ?_)
  · simp only [go_sem, seval, g16]
    refine hK _ ?_
    clear hK K
    refine Walk.condT rfl (Walk.seq (Walk.region' rfl fun K hK => ?_))
    simp only [go_sem, seval, g16]
    refine hK _ ?_
    clear hK K
    obtain rfl := Option.some.inj hx
    exact Walk.ret ⟨by simp [g16], by simp [g16]⟩
  obtain ⟨v14, h17, hx⟩ := bind_elim hx
  simp only [go_sem, seval, g16]
  refine VCl.pure rfl (by simp only [go_sem, seval, g16]; try simp) (blueprint_choice_ok v3 (v1.length : Int) _ h17) (by simp only [go_sem, seval, g16]; try simp) (by simp only [go_sem, seval, g16]; try simp) (by simp only [go_sem, seval, g16]; try simp) (by simp only [go_sem, seval, g16]; try simp) (by simp only [go_sem, seval, g16]; try simp) (by simp only [go_sem, seval, g16]; try simp) ?_
  simp only [go_sem, seval, g16]
  refine hK _ ?_
  clear hK K
  refine Walk.condO rfl hx (fun c19 hx => ?_) (fun c19 hx => ?_)
  · refine Walk.seq (Walk.region' rfl fun K hK => ?_)
    simp only [go_sem, seval, g16, c19]
    refine hK _ ?_
    clear hK K
    obtain rfl := Option.some.inj hx
    exact Walk.ret ⟨by simp [g16, c19], by simp [g16, c19]⟩
  refine Walk.skip (Walk.seq (Walk.region' rfl fun K hK => ?_))
  obtain ⟨v15, h20, hx⟩ := bind_elim hx
  simp only [go_sem, seval, g16, c19]
  refine VCl.pure rfl (by simp only [go_sem, seval, g16, c19]; try simp) (blueprint_sum_ok v1 v3 _ h20) (by simp only [go_sem, seval, g16, c19]; try simp) (by simp only [go_sem, seval, g16, c19]; try simp) (by simp only [go_sem, seval, g16, c19]; try simp) (by simp only [go_sem, seval, g16, c19]; try simp) (by simp only [go_sem, seval, g16, c19]; try simp) (by simp only [go_sem, seval, g16, c19]; try simp) ?_
  simp only [go_sem, seval, g16, c19]
  refine hK _ ?_
  clear hK K
  obtain rfl := Option.some.inj hx
  exact Walk.ret ⟨by simp [g16, c19], by simp [g16, c19]⟩
noncomputable def math_bits_Mul64 (v1 : Int) (v2 : Int) : Option (Int × Int) :=
  some ((IntKind.u64.wrap ((IntKind.u64.wrap ((IntKind.u64.wrap (((v1 / 2 ^ (min (32 : Int).toNat 64))) * ((v2 / 2 ^ (min (32 : Int).toNat 64))))) + (((IntKind.u64.wrap ((IntKind.u64.wrap (((v1 / 2 ^ (min (32 : Int).toNat 64))) * (Go.bits .and .u64 v2 4294967295))) + (((IntKind.u64.wrap ((Go.bits .and .u64 v1 4294967295) * (Go.bits .and .u64 v2 4294967295))) / 2 ^ (min (32 : Int).toNat 64))))) / 2 ^ (min (32 : Int).toNat 64))))) + (((IntKind.u64.wrap (((Go.bits .and .u64 (IntKind.u64.wrap ((IntKind.u64.wrap (((v1 / 2 ^ (min (32 : Int).toNat 64))) * (Go.bits .and .u64 v2 4294967295))) + (((IntKind.u64.wrap ((Go.bits .and .u64 v1 4294967295) * (Go.bits .and .u64 v2 4294967295))) / 2 ^ (min (32 : Int).toNat 64))))) 4294967295)) + (IntKind.u64.wrap ((Go.bits .and .u64 v1 4294967295) * ((v2 / 2 ^ (min (32 : Int).toNat 64))))))) / 2 ^ (min (32 : Int).toNat 64)))), IntKind.u64.wrap (v1 * v2)) : Int × Int)
theorem math_bits_Mul64_ok (v1 : Int) (v2 : Int) (r : Int × Int) (hx : math_bits_Mul64 v1 v2 = some r) :
    ACalls Try.prog 84 [.d (.int .u64 v1), .d (.int .u64 v2)] [] (.tup [.d (.int .u64 r.1), .d (.int .u64 r.2)]) [] := by
  refine ACalls.of_sem (n := 51) 0 [4, 5] (fn := Try.f84) Try.func84 rfl rfl (.two rfl) rfl (by simp) (by intro i; simp only [hget]; (repeat' split) <;> simp <;> omega) ?_
  unfold math_bits_Mul64 at hx
  refine Walk.seq (Walk.region' rfl fun K hK => ?_)
  simp only [go_sem, seval]
  refine hK _ ?_
  clear hK K
  refine Walk.seq (Walk.region' rfl fun K hK => ?_)
  simp only [go_sem, seval]
  refine hK _ ?_
  clear hK K
  refine Walk.seq (Walk.region' rfl fun K hK => ?_)
  simp only [go_sem, seval]
  refine hK _ ?_
  clear hK K
  refine Walk.seq (Walk.region' rfl fun K hK => ?_)
  simp only [go_sem, seval]
  refine hK _ ?_
  clear hK K
  refine Walk.seq (Walk.region' rfl fun K hK => ?_)
  simp only [go_sem, seval]
  refine hK _ ?_
  clear hK K
  refine Walk.seq (Walk.region' rfl fun K hK => ?_)
  simp only [go_sem, seval]
  refine hK _ ?_
  clear hK K
  refine Walk.seq (Walk.region' rfl fun K hK => ?_)
  simp only [go_sem, seval]
  refine hK _ ?_
  clear hK K
  refine Walk.seq (Walk.region' rfl fun K hK => ?_)
  simp only [go_sem, seval]
  refine hK _ ?_
  clear hK K
  refine Walk.seq (Walk.region' rfl fun K hK => ?_)
  simp only [go_sem, seval]
  refine hK _ ?_
  clear hK K
  refine Walk.seq (Walk.region' rfl fun K hK => ?_)
  simp only [go_sem, seval]
  refine hK _ ?_
  clear hK K
  refine Walk.seq (Walk.region' rfl fun K hK => ?_)
  simp only [go_sem, seval]
  refine hK _ ?_
  clear hK K
  refine Walk.seq (Walk.region' rfl fun K hK => ?_)
  simp only [go_sem, seval]
  refine hK _ ?_
  clear hK K
  obtain rfl := Option.some.inj hx
  exact Walk.ret ⟨by simp, by simp⟩
noncomputable def math_bits_Mul (v1 : Int) (v2 : Int) : Option (Int × Int) :=
  (math_bits_Mul64 v1 v2).bind fun v6 => some ((v6.1, v6.2) : Int × Int)
theorem math_bits_Mul_ok (v1 : Int) (v2 : Int) (r : Int × Int) (hx : math_bits_Mul v1 v2 = some r) :
    ACalls Try.prog 66 [.d (.int .u64 v1), .d (.int .u64 v2)] [] (.tup [.d (.int .u64 r.1), .d (.int .u64 r.2)]) [] := by
  refine ACalls.of_sem (n := 30) 0 [4, 5] (fn := Try.f66) Try.func66 rfl rfl (.two rfl) rfl (by simp) (by intro i; simp only [hget]; (repeat' split) <;> simp <;> omega) ?_
  unfold math_bits_Mul at hx
  refine Walk.seq (Walk.region' rfl fun K hK => ?_)
  simp only [go_sem, seval]
  refine hK _ ?_
  clear hK K
  refine Walk.seq (Walk.condF rfl (Walk.skip (Walk.seq (Walk.region' rfl fun K hK => ?_))))
  obtain ⟨v6, h2, hx⟩ := bind_elim hx
  simp only [go_sem, seval]
  refine VCl.pure rfl (by simp only [go_sem, seval]; try simp) (math_bits_Mul64_ok v1 v2 _ h2) (by simp only [go_sem, seval]; try simp) (by simp only [go_sem, seval]; try simp) (by simp only [go_sem, seval]; try simp) (by simp only [go_sem, seval]; try simp) (by simp only [go_sem, seval]; try simp) (by simp only [go_sem, seval]; try simp) ?_
  simp only [go_sem, seval]
  refine hK _ ?_
  clear hK K
  refine Walk.seq (Walk.region' rfl fun K hK => ?_)
  simp only [go_sem, seval]
  refine hK _ ?_
  clear hK K
  obtain rfl := Option.some.inj hx
  exact Walk.ret ⟨by simp, by simp⟩
noncomputable def slices_Repeat_int_l0 (v8 : Int) (v9 : List Int) : Option ((Int × List Int) ⊕ (List Int)) :=
  bif decide (v8 < (v9.length : Int)) then (chk (0 ≤ v8 ∧ v8 ≤ (v9.length : Int)) (chk (0 ≤ v8 ∧ v8 ≤ (v9.length : Int)) (contO ((IntKind.i64.wrap (v8 + (((min ((v9.take ((v8).toNat))).length ((v9.length - (v8).toNat)) : Nat) : Int))), (spl v9 ((v8).toNat) (((v9.take ((v8).toNat))).take ((v9.length - (v8).toNat))))) : Int × List Int)))) else (exitO (chk (v9.length ≤ 281474976710656) (some (v9 : List Int))))
noncomputable def slices_Repeat_int (v1 : List Int) (v2 : Int) : Option (List Int) :=
  bif decide (v2 < 0) then none else ((math_bits_Mul (IntKind.u64.wrap ((v1.length : Int))) (IntKind.u64.wrap (v2))).bind fun v7 => bif decide (v7.1 > 0) then none else (bif decide (v7.2 > 9223372036854775807) then none else (chk ((0 : Int) ≤ (IntKind.i64.wrap (v7.2)) ∧ (IntKind.i64.wrap (v7.2)) = (IntKind.i64.wrap (v7.2)) ∧ 8 * (IntKind.i64.wrap (v7.2)) ≤ 281474976710656 ∧ (IntKind.i64.wrap (v7.2)) ≤ 281474976710656) (iter (fun g : Int × List Int => slices_Repeat_int_l0 g.1 g.2) (((min v1.length (((List.replicate (IntKind.i64.wrap (v7.2)).toNat (0 : Int))).length) : Nat) : Int), (spl ((List.replicate (IntKind.i64.wrap (v7.2)).toNat (0 : Int))) 0 (v1.take (((List.replicate (IntKind.i64.wrap (v7.2)).toNat (0 : Int))).length))))))))
theorem slices_Repeat_int_ok (v1 : List Int) (v2 : Int) (r : List Int) (hx : slices_Repeat_int v1 v2 = some r) :
    ACalls Try.prog 45 [.d (.sl (List.map iD v1)), .d (.int .i64 v2)] [] (.arr 102000 0 r.length) [(102000, some (.arr 3 1 (List.map iD r)))] := by
  refine ACalls.of_sem (n := 48) 100000 [4] (fn := Try.f45) Try.func45 rfl rfl (.one rfl) rfl (by simp) (by intro i; simp only [hget]; (repeat' split) <;> simp <;> omega) ?_
  unfold slices_Repeat_int at hx
  refine Walk.seq (Walk.region' rfl fun K hK => ?_)
  simp only [go_sem, seval]
  refine hK _ ?_
  clear hK K
  refine Walk.seq (Walk.seq (Walk.region' rfl fun K hK => ?_))
  simp only [go_sem, seval]
  refine hK _ ?_
  clear hK K
  refine Walk.condO rfl hx (fun c32 hx => ?_) (fun c32 hx => ?_)
  · exact absurd hx (by simp)
  refine Walk.skip (Walk.seq (Walk.region' rfl fun K hK => ?_))
  obtain ⟨v7, h33, hx⟩ := bind_elim hx
  simp only [go_sem, seval, c32]
  refine VCl.pure rfl (by simp only [go_sem, seval, c32]; try simp) (math_bits_Mul_ok (IntKind.u64.wrap ((v1.length : Int))) (IntKind.u64.wrap (v2)) _ h33) (by simp only [go_sem, seval, c32]; try simp) (by simp only [go_sem, seval, c32]; try simp) (by simp only [go_sem, seval, c32]; try simp) (by simp only [go_sem, seval, c32]; try simp) (by simp only [go_sem, seval, c32]; try simp) (by simp only [go_sem, seval, c32]; try simp) ?_
  simp only [go_sem, seval, c32]
  refine hK _ ?_
  clear hK K
  refine Walk.seq (Walk.seq (Walk.region' rfl fun K hK => ?_))
  simp only [go_sem, seval, c32]
  refine VGdO hx (fun g36 hx => ?_) (fun g36 hx => ?_)
  · simp only [go_sem, seval, c32, g36]
    refine hK _ ?_
    clear hK K
    exact absurd hx (by simp)
  simp only [go_sem, seval, c32, g36]
  refine hK _ ?_
  clear hK K
  refine Walk.condO rfl hx (fun c38 hx => ?_) (fun c38 hx => ?_)
  · exact absurd hx (by simp)
  refine Walk.skip (Walk.seq (Walk.region' rfl fun K hK => ?_))
  obtain ⟨k39, hx⟩ := chk_elim hx
  simp only [go_sem, seval, c32, g36, c38, k39]
  repeat refine And.intro (by first | omega | (simp; done) | (simp; omega)) ?_
  refine hK _ ?_
  clear hK K
  refine Walk.weaken ⟨[(0, .d (.sl (List.map iD v1))), (7, .arr 100030 0 (((List.replicate (IntKind.i64.wrap (v7.2)).toNat (0 : Int))).length))], [(100030, some (.box (List.map iA ((List.replicate (IntKind.i64.wrap (v7.2)).toNat (0 : Int))))))]⟩ (by simp [c32, g36, c38, k39] <;> omega) (by simp [c32, g36, c38, k39] <;> omega) ?_
  refine Walk.seq (Walk.region' rfl fun K hK => ?_)
  simp only [go_sem, seval, c32, g36, c38, k39]
  refine hK _ ?_
  clear hK K
  refine Walk.weaken ⟨[(7, .arr 100030 0 (((spl ((List.replicate (IntKind.i64.wrap (v7.2)).toNat (0 : Int))) 0 (v1.take (((List.replicate (IntKind.i64.wrap (v7.2)).toNat (0 : Int))).length)))).length)), (8, .d (.int .i64 (((min v1.length (((List.replicate (IntKind.i64.wrap (v7.2)).toNat (0 : Int))).length) : Nat) : Int))))], [(100030, some (.box (List.map iA ((spl ((List.replicate (IntKind.i64.wrap (v7.2)).toNat (0 : Int))) 0 (v1.take (((List.replicate (IntKind.i64.wrap (v7.2)).toNat (0 : Int))).length)))))))]⟩ (by simp [c32, g36, c38, k39] <;> omega) (by simp [c32, g36, c38, k39] <;> omega) ?_
  refine Walk.seq (Walk.block (Walk.loop ?_))
  refine Walk.weaken ⟨[(7, .arr 100030 0 (((spl ((List.replicate (IntKind.i64.wrap (v7.2)).toNat (0 : Int))) 0 (v1.take (((List.replicate (IntKind.i64.wrap (v7.2)).toNat (0 : Int))).length)))).length)), (8, .d (.int .i64 (((min v1.length (((List.replicate (IntKind.i64.wrap (v7.2)).toNat (0 : Int))).length) : Nat) : Int))))], [(100030, some (.box (List.map iA ((spl ((List.replicate (IntKind.i64.wrap (v7.2)).toNat (0 : Int))) 0 (v1.take (((List.replicate (IntKind.i64.wrap (v7.2)).toNat (0 : Int))).length)))))))]⟩ (by simp [c32, g36, c38, k39] <;> omega) (by simp [c32, g36, c38, k39] <;> omega) ?_
  refine Walk.iter (σ := Int × List Int) (fun g => ⟨[(7, .arr 100030 0 g.2.length), (8, .d (.int .i64 g.1))], [(100030, some (.box (List.map iA g.2)))]⟩) (fun g : Int × List Int => slices_Repeat_int_l0 g.1 g.2) _ (fun g y60 hx ih50 hr51 => ?_) (((min v1.length (((List.replicate (IntKind.i64.wrap (v7.2)).toNat (0 : Int))).length) : Nat) : Int), (spl ((List.replicate (IntKind.i64.wrap (v7.2)).toNat (0 : Int))) 0 (v1.take (((List.replicate (IntKind.i64.wrap (v7.2)).toNat (0 : Int))).length)))) hx
  obtain ⟨v8, v9⟩ := g
  unfold slices_Repeat_int_l0 at hx
  try dsimp only at hx ⊢
  refine Walk.seq (Walk.seq (Walk.region' rfl fun K hK => ?_))
  simp only [go_sem, seval, c32, g36, c38, k39]
  refine hK _ ?_
  clear hK K
  refine Walk.condO rfl hx (fun c54 hx => ?_) (fun c54 hx => ?_)
  · refine Walk.skip (Walk.block (Walk.drawn' rfl mixed fun K hK => ?_))
    obtain ⟨k55, hx⟩ := chk_elim hx
    obtain ⟨k56, hx⟩ := chk_elim hx
    simp only [go_sem, seval, c32, g36, c38, k39, c54, k55, k56]
    repeat refine And.intro (by first | omega | (simp; done) | (simp; omega)) ?_
    refine hK _ _ (by kernel_rfl) (by simp [c32, g36, c38, k39, c54, k55, k56]) ?_
    clear hK K
    refine Walk.weaken ⟨[(7, .arr 100030 0 (((spl v9 ((v8).toNat) (((v9.take ((v8).toNat))).take ((v9.length - (v8).toNat))))).length)), (8, .d (.int .i64 (IntKind.i64.wrap (v8 + (((min ((v9.take ((v8).toNat))).length ((v9.length - (v8).toNat)) : Nat) : Int))))))], [(100030, some (.box (List.map iA ((spl v9 ((v8).toNat) (((v9.take ((v8).toNat))).take ((v9.length - (v8).toNat))))))))]⟩ (by simp [c32, g36, c38, k39, c54, k55, k56] <;> omega) (by simp [c32, g36, c38, k39, c54, k55, k56] <;> omega) ?_
    refine Walk.inBlock ?_
    exact Walk.weaken _ (by simp [c32, g36, c38, k39, c54, k55, k56] <;> omega) (by simp [c32, g36, c38, k39, c54, k55, k56] <;> omega) (ih50 _ (cont_elim hx))
  refine Walk.exit rfl ?_
  obtain ⟨z57, e58, hx⟩ := exit_elim hx
  rw [hr51 z57 e58] at hx
  refine Walk.seq (Walk.region' rfl fun K hK => ?_)
  simp only [go_sem, seval, c32, g36, c38, k39, c54]
  refine hK _ ?_
  clear hK K
  obtain ⟨k59, hx⟩ := chk_elim hx
  refine Walk.weaken ⟨[(4, .arr 100030 0 v9.length)], [(100030, some (.box (List.map iA v9)))]⟩ (by simp [c32, g36, c38, k39, c54] <;> omega) (by simp [c32, g36, c38, k39, c54] <;> omega) ?_
  refine Walk.boxArr 100030 101002 3 (List.map (D.int .i64) v9) [(4, .arr 101002 0 v9.length)] [(101002, some (.arr 3 1 (List.map iD v9)))] (by simp [map_iA, map_bA]) (by simp [LB, k59]) (by omega) (by omega) (by simp) (by simp) (by simp [baE, baV, baV_arr]) (by simp [baH, one_iD, one_bD]) ?_
  refine Walk.weaken ⟨[(4, .arr 101002 0 v9.length)], [(101002, some (.arr 3 1 (List.map iD v9)))]⟩ (by simp [c32, g36, c38, k39, c54, k59] <;> omega) (by simp [c32, g36, c38, k39, c54, k59] <;> omega) ?_
  refine Walk.rename 101002 102000 (by omega) (by omega) (by simp) (by simp) ?_
  simp only [renE, renL, AV.ren, AV.rens, AObj.ren, swp, Option.map_some, reduceIte, Nat.reduceEqDiff]
  obtain rfl := Option.some.inj hx
  exact Walk.ret ⟨by simp [c32, g36, c38, k39, c54, k59], by simp [c32, g36, c38, k39, c54, k59]⟩
noncomputable def assembly_Solve_1_2_j0 (rec : Int → Int → Bool → (List Int) → Int → (List Node) → (List Int) → (List Row) → (List Int) → Option (List Int × Bool × List Node × Int)) (v6 : List Node) (v9 : List Int) (v1 : Int) (v2 : Int) (v4 : List Int) (v5 : Int) (v7 : List Int) (v8 : List Row) (v47 : Bool) : Option (List Int × Bool × List Node × Int) :=
  chk ((v6.length + 1) * 56 ≤ 140737488355328) ((rd v9 v1).bind fun v48 => (rec (IntKind.i64.wrap (v1 + 1)) v2 v47 v4 v5 (v6 ++ [(Node.mk 0 0 0 0 0 0 0)]) v7 v8 (v9.set (v1).toNat 0)).bind fun v49 => (rd v49.1 v1).bind fun v50 => (rd v7 v1).bind fun v51 => (rec (IntKind.i64.wrap (v1 + 1)) (IntKind.i64.wrap (v2 + v51)) v49.2.1 v4 v5 v49.2.2.1 v7 v8 (v49.1.set (v1).toNat 1)).bind fun v52 => (rd v52.1 v1).bind fun v53 => (rd v52.2.2.1 (v6.length : Int)).bind fun v54 => some (((v52.1.set (v1).toNat (-1)), v52.2.1, (v52.2.2.1.set ((v6.length : Int)).toNat (Node.mk 1 v1 v49.2.2.2 v52.2.2.2 0 0 0)), (v6.length : Int)) : List Int × Bool × List Node × Int))
noncomputable def assembly_Solve_1_2_F (rec : Int → Int → Bool → (List Int) → Int → (List Node) → (List Int) → (List Row) → (List Int) → Option (List Int × Bool × List Node × Int)) (v1 : Int) (v2 : Int) (v3 : Bool) (v4 : List Int) (v5 : Int) (v6 : List Node) (v7 : List Int) (v8 : List Row) (v9 : List Int) : Option (List Int × Bool × List Node × Int) :=
  (blueprint_Dead v7 v8 v9).bind fun v46 => bif decide (v46 ≥ 0) then (chk ((v6.length + 1) * 56 ≤ 140737488355328) (some ((v9, v3, (v6 ++ [(Node.mk 2 0 0 0 v46 0 0)]), (v6.length : Int)) : List Int × Bool × List Node × Int))) else (bif v3 then (bif decide (v2 ≥ v5) then (chk ((v6.length + 1) * 56 ≤ 140737488355328) (some ((v9, true, (v6 ++ [(Node.mk 3 0 0 0 (-1) 0 1)]), (v6.length : Int)) : List Int × Bool × List Node × Int))) else (assembly_Solve_1_2_j0 rec v6 v9 v1 v2 v4 v5 v7 v8 true)) else (assembly_Solve_1_2_j0 rec v6 v9 v1 v2 v4 v5 v7 v8 false))
theorem assembly_Solve_1_2_F_ok (rec : Int → Int → Bool → (List Int) → Int → (List Node) → (List Int) → (List Row) → (List Int) → Option (List Int × Bool × List Node × Int)) (hrec : ∀ (v1 : Int) (v2 : Int) (v3 : Bool) (v4 : List Int) (v5 : Int) (v6 : List Node) (v7 : List Int) (v8 : List Row) (v9 : List Int) (r : List Int × Bool × List Node × Int), rec v1 v2 v3 v4 v5 v6 v7 v8 v9 = some r → ACalls Try.prog 46 [.d (.int .i64 v1), .d (.int .i64 v2), .box 0 0, .box 2 0, .box 3 0, .box 5 0] [(0, some (.box [.d (.bool v3), .d (.sl (List.map iD v4)), .d (.int .i64 v5), .arr 1 0 v6.length])), (1, some (.arr 86 7 (List.map Node.D v6))), (2, some (.box [.d (.sl (List.map iD v7)), .d (.sl (List.map Row.D v8))])), (3, some (.box [.arr 4 0 v9.length])), (4, some (.arr 3 1 (List.map iD v9))), (5, some (.box [.fn 46 [.box 0 0, .box 2 0, .box 3 0, .box 5 0]]))] (.d (.int .i64 r.2.2.2)) [(0, some (.box [.d (.bool r.2.1), .d (.sl (List.map iD v4)), .d (.int .i64 v5), .arr 1 0 r.2.2.1.length])), (1, some (.arr 86 7 (List.map Node.D r.2.2.1))), (2, some (.box [.d (.sl (List.map iD v7)), .d (.sl (List.map Row.D v8))])), (3, some (.box [.arr 4 0 r.1.length])), (4, some (.arr 3 1 (List.map iD r.1))), (5, some (.box [.fn 46 [.box 0 0, .box 2 0, .box 3 0, .box 5 0]]))]) (v1 : Int) (v2 : Int) (v3 : Bool) (v4 : List Int) (v5 : Int) (v6 : List Node) (v7 : List Int) (v8 : List Row) (v9 : List Int) (r : List Int × Bool × List Node × Int) (hx : assembly_Solve_1_2_F rec v1 v2 v3 v4 v5 v6 v7 v8 v9 = some r) :
    ACalls Try.prog 46 [.d (.int .i64 v1), .d (.int .i64 v2), .box 0 0, .box 2 0, .box 3 0, .box 5 0] [(0, some (.box [.d (.bool v3), .d (.sl (List.map iD v4)), .d (.int .i64 v5), .arr 1 0 v6.length])), (1, some (.arr 86 7 (List.map Node.D v6))), (2, some (.box [.d (.sl (List.map iD v7)), .d (.sl (List.map Row.D v8))])), (3, some (.box [.arr 4 0 v9.length])), (4, some (.arr 3 1 (List.map iD v9))), (5, some (.box [.fn 46 [.box 0 0, .box 2 0, .box 3 0, .box 5 0]]))] (.d (.int .i64 r.2.2.2)) [(0, some (.box [.d (.bool r.2.1), .d (.sl (List.map iD v4)), .d (.int .i64 v5), .arr 1 0 r.2.2.1.length])), (1, some (.arr 86 7 (List.map Node.D r.2.2.1))), (2, some (.box [.d (.sl (List.map iD v7)), .d (.sl (List.map Row.D v8))])), (3, some (.box [.arr 4 0 r.1.length])), (4, some (.arr 3 1 (List.map iD r.1))), (5, some (.box [.fn 46 [.box 0 0, .box 2 0, .box 3 0, .box 5 0]]))] := by
  refine ACalls.of_sem (n := 84) 6 [8] (fn := Try.f46) Try.func46 rfl rfl (.one rfl) rfl (by simp) (by intro i; simp only [hget]; (repeat' split) <;> simp <;> omega) ?_
  unfold assembly_Solve_1_2_F at hx
  refine Walk.seq (Walk.region' rfl fun K hK => ?_)
  simp only [go_sem, seval]
  refine hK _ ?_
  clear hK K
  refine Walk.seq (Walk.region' rfl fun K hK => ?_)
  simp only [go_sem, seval]
  refine hK _ ?_
  clear hK K
  refine Walk.seq (Walk.seq (Walk.region' rfl fun K hK => ?_))
  obtain ⟨v46, h94, hx⟩ := bind_elim hx
  simp only [go_sem, seval]
  refine VCl.lent rfl (by simp only [go_sem, seval]; try simp) (blueprint_Dead_ok v7 v8 v9 _ h94) (by simp) (by simp) (by simp) (by simp) (by simp) (by simp) (by simp) ?_
  simp only [go_sem, seval]
  refine hK _ ?_
  clear hK K
  refine Walk.seq (Walk.region' rfl fun K hK => ?_)
  simp only [go_sem, seval]
  refine hK _ ?_
  clear hK K
  refine Walk.condO rfl hx (fun c99 hx => ?_) (fun c99 hx => ?_)
  · refine Walk.seq (Walk.region' rfl fun K hK => ?_)
    obtain ⟨k100, hx⟩ := chk_elim hx
    simp only [go_sem, seval, c99, k100]
    repeat refine And.intro (by first | omega | (simp; done) | (simp; omega)) ?_
    refine hK _ ?_
    clear hK K
    refine Walk.weaken ⟨[(9, .d (.int .i64 (v6.length : Int)))], [(0, some (.box [.d (.bool v3), .d (.sl (List.map iD v4)), .d (.int .i64 v5), .arr 1 0 (((v6 ++ [(Node.mk 2 0 0 0 v46 0 0)])).length)])), (1, some (.arr 86 7 (List.map Node.D ((v6 ++ [(Node.mk 2 0 0 0 v46 0 0)]))))), (2, some (.box [.d (.sl (List.map iD v7)), .d (.sl (List.map Row.D v8))])), (3, some (.box [.arr 4 0 v9.length])), (4, some (.arr 3 1 (List.map iD v9))), (5, some (.box [.fn 46 [.box 0 0, .box 2 0, .box 3 0, .box 5 0]]))]⟩ (by simp [c99, k100] <;> omega) (by simp [c99, k100] <;> omega) ?_
    refine Walk.seq (Walk.region' rfl fun K hK => ?_)
    simp only [go_sem, seval, c99, k100]
    refine hK _ ?_
    clear hK K
    obtain rfl := Option.some.inj hx
    exact Walk.ret ⟨by simp [c99, k100], by simp [c99, k100]⟩
  refine Walk.skip (Walk.seq (Walk.join (G := Bool) (fun g => ⟨[(0, .d (.int .i64 v1)), (1, .d (.int .i64 v2)), (2, .box 0 0), (3, .box 2 0), (4, .box 3 0), (5, .box 5 0), (9, .d (.int .i64 (v6.length : Int)))], [(0, some (.box [.d (.bool g), .d (.sl (List.map iD v4)), .d (.int .i64 v5), .arr 1 0 v6.length])), (1, some (.arr 86 7 (List.map Node.D v6))), (2, some (.box [.d (.sl (List.map iD v7)), .d (.sl (List.map Row.D v8))])), (3, some (.box [.arr 4 0 v9.length])), (4, some (.arr 3 1 (List.map iD v9))), (5, some (.box [.fn 46 [.box 0 0, .box 2 0, .box 3 0, .box 5 0]]))]⟩) (fun g => assembly_Solve_1_2_j0 rec v6 v9 v1 v2 v4 v5 v7 v8 g) hx (fun v47 hx => ?_) (fun fin104 => ?_)))
  · unfold assembly_Solve_1_2_j0 at hx
    try dsimp only at hx ⊢
    refine Walk.seq (Walk.region' rfl fun K hK => ?_)
    obtain ⟨k105, hx⟩ := chk_elim hx
    simp only [go_sem, seval, c99, k105]
    repeat refine And.intro (by first | omega | (simp; done) | (simp; omega)) ?_
    refine hK _ ?_
    clear hK K
    refine Walk.weaken ⟨[(0, .d (.int .i64 v1)), (1, .d (.int .i64 v2)), (2, .box 0 0), (3, .box 2 0), (4, .box 3 0), (5, .box 5 0), (9, .d (.int .i64 (v6.length : Int)))], [(0, some (.box [.d (.bool v47), .d (.sl (List.map iD v4)), .d (.int .i64 v5), .arr 1 0 (((v6 ++ [(Node.mk 0 0 0 0 0 0 0)])).length)])), (1, some (.arr 86 7 (List.map Node.D ((v6 ++ [(Node.mk 0 0 0 0 0 0 0)]))))), (2, some (.box [.d (.sl (List.map iD v7)), .d (.sl (List.map Row.D v8))])), (3, some (.box [.arr 4 0 v9.length])), (4, some (.arr 3 1 (List.map iD v9))), (5, some (.box [.fn 46 [.box 0 0, .box 2 0, .box 3 0, .box 5 0]]))]⟩ (by simp [c99, k105] <;> omega) (by simp [c99, k105] <;> omega) ?_
    refine Walk.seq (Walk.region' rfl fun K hK => ?_)
    simp only [go_sem, seval, c99, k105]
    refine hK _ ?_
    clear hK K
    refine Walk.seq (Walk.region' rfl fun K hK => ?_)
    obtain ⟨v48, r106, a107, b108, c109, hx⟩ := rd_elim hx
    simp only [go_sem, seval, c99, k105, a107, b108, c109]
    repeat refine And.intro (by first | omega | (simp; done) | (simp; omega)) ?_
    refine hK _ ?_
    clear hK K
    refine Walk.weaken ⟨[(0, .d (.int .i64 v1)), (1, .d (.int .i64 v2)), (2, .box 0 0), (3, .box 2 0), (4, .box 3 0), (5, .box 5 0), (9, .d (.int .i64 (v6.length : Int))), (11, .box 17 0)], [(0, some (.box [.d (.bool v47), .d (.sl (List.map iD v4)), .d (.int .i64 v5), .arr 1 0 (((v6 ++ [(Node.mk 0 0 0 0 0 0 0)])).length)])), (1, some (.arr 86 7 (List.map Node.D ((v6 ++ [(Node.mk 0 0 0 0 0 0 0)]))))), (2, some (.box [.d (.sl (List.map iD v7)), .d (.sl (List.map Row.D v8))])), (3, some (.box [.arr 4 0 (((v9.set (v1).toNat 0)).length)])), (4, some (.arr 3 1 (List.map iD ((v9.set (v1).toNat 0))))), (5, some (.box [.fn 46 [.box 0 0, .box 2 0, .box 3 0, .box 5 0]])), (17, some (.box [.d (.int .i64 1), .d (.int .i64 v1), .d (.int .i64 0), .d (.int .i64 0), .d (.int .i64 0), .d (.int .i64 0), .d (.int .i64 0)]))]⟩ (by simp [c99, k105, a107, b108, c109] <;> omega) (by simp [c99, k105, a107, b108, c109] <;> omega) ?_
    refine Walk.seq (Walk.region' rfl fun K hK => ?_)
    obtain ⟨v49, h110, hx⟩ := bind_elim hx
    simp only [go_sem, seval, c99, k105, a107, b108, c109]
    refine VCl.sub [(0, some (.box [.d (.bool v47), .d (.sl (List.map iD v4)), .d (.int .i64 v5), .arr 1 0 (((v6 ++ [(Node.mk 0 0 0 0 0 0 0)])).length)])), (1, some (.arr 86 7 (List.map Node.D ((v6 ++ [(Node.mk 0 0 0 0 0 0 0)]))))), (2, some (.box [.d (.sl (List.map iD v7)), .d (.sl (List.map Row.D v8))])), (3, some (.box [.arr 4 0 (((v9.set (v1).toNat 0)).length)])), (4, some (.arr 3 1 (List.map iD ((v9.set (v1).toNat 0))))), (5, some (.box [.fn 46 [.box 0 0, .box 2 0, .box 3 0, .box 5 0]]))] [] rfl (by simp only [go_sem, seval, AV.viewXs, AV.viewX, avD, c99, k105, a107, b108, c109]; try simp) (hrec (IntKind.i64.wrap (v1 + 1)) v2 v47 v4 v5 (v6 ++ [(Node.mk 0 0 0 0 0 0 0)]) v7 v8 (v9.set (v1).toNat 0) _ h110) (by simp [c99, k105, a107, b108, c109]) (by simp [c99, k105, a107, b108, c109]) (by simp [c99, k105, a107, b108, c109]) (by simp [c99, k105, a107, b108, c109]) (by simp [c99, k105, a107, b108, c109]) (by simp [c99, k105, a107, b108, c109]) (by simp [c99, k105, a107, b108, c109]) (by simp [c99, k105, a107, b108, c109]) (by simp [c99, k105, a107, b108, c109]) (by simp [c99, k105, a107, b108, c109]) ?_
    simp only [go_sem, seval, c99, k105, a107, b108, c109]
    refine hK _ ?_
    clear hK K
    refine Walk.weaken ⟨[(0, .d (.int .i64 v1)), (1, .d (.int .i64 v2)), (2, .box 0 0), (3, .box 2 0), (4, .box 3 0), (5, .box 5 0), (9, .d (.int .i64 (v6.length : Int))), (11, .box 17 0)], [(0, some (.box [.d (.bool v49.2.1), .d (.sl (List.map iD v4)), .d (.int .i64 v5), .arr 1 0 v49.2.2.1.length])), (1, some (.arr 86 7 (List.map Node.D v49.2.2.1))), (2, some (.box [.d (.sl (List.map iD v7)), .d (.sl (List.map Row.D v8))])), (3, some (.box [.arr 4 0 v49.1.length])), (4, some (.arr 3 1 (List.map iD v49.1))), (5, some (.box [.fn 46 [.box 0 0, .box 2 0, .box 3 0, .box 5 0]])), (17, some (.box [.d (.int .i64 1), .d (.int .i64 v1), .d (.int .i64 v49.2.2.2), .d (.int .i64 0), .d (.int .i64 0), .d (.int .i64 0), .d (.int .i64 0)]))]⟩ (by simp [c99, k105, a107, b108, c109] <;> omega) (by simp [c99, k105, a107, b108, c109] <;> omega) ?_
    refine Walk.seq (Walk.region' rfl fun K hK => ?_)
    obtain ⟨v50, r111, a112, b113, c114, hx⟩ := rd_elim hx
    simp only [go_sem, seval, c99, k105, a107, b108, c109, a112, b113, c114]
    repeat refine And.intro (by first | omega | (simp; done) | (simp; omega)) ?_
    refine hK _ ?_
    clear hK K
    refine Walk.weaken ⟨[(0, .d (.int .i64 v1)), (1, .d (.int .i64 v2)), (2, .box 0 0), (3, .box 2 0), (4, .box 3 0), (5, .box 5 0), (9, .d (.int .i64 (v6.length : Int))), (11, .box 17 0)], [(0, some (.box [.d (.bool v49.2.1), .d (.sl (List.map iD v4)), .d (.int .i64 v5), .arr 1 0 v49.2.2.1.length])), (1, some (.arr 86 7 (List.map Node.D v49.2.2.1))), (2, some (.box [.d (.sl (List.map iD v7)), .d (.sl (List.map Row.D v8))])), (3, some (.box [.arr 4 0 (((v49.1.set (v1).toNat 1)).length)])), (4, some (.arr 3 1 (List.map iD ((v49.1.set (v1).toNat 1))))), (5, some (.box [.fn 46 [.box 0 0, .box 2 0, .box 3 0, .box 5 0]])), (17, some (.box [.d (.int .i64 1), .d (.int .i64 v1), .d (.int .i64 v49.2.2.2), .d (.int .i64 0), .d (.int .i64 0), .d (.int .i64 0), .d (.int .i64 0)]))]⟩ (by simp [c99, k105, a107, b108, c109, a112, b113, c114] <;> omega) (by simp [c99, k105, a107, b108, c109, a112, b113, c114] <;> omega) ?_
    refine Walk.seq (Walk.drawn' rfl mixed fun K hK => ?_)
    obtain ⟨v51, r115, a116, b117, c118, hx⟩ := rd_elim hx
    obtain ⟨v52, h119, hx⟩ := bind_elim hx
    simp only [go_sem, seval, c99, k105, a107, b108, c109, a112, b113, c114, a116, b117, c118]
    repeat refine And.intro (by first | omega | (simp; done) | (simp; omega)) ?_
    refine VCl.sub [(0, some (.box [.d (.bool v49.2.1), .d (.sl (List.map iD v4)), .d (.int .i64 v5), .arr 1 0 v49.2.2.1.length])), (1, some (.arr 86 7 (List.map Node.D v49.2.2.1))), (2, some (.box [.d (.sl (List.map iD v7)), .d (.sl (List.map Row.D v8))])), (3, some (.box [.arr 4 0 (((v49.1.set (v1).toNat 1)).length)])), (4, some (.arr 3 1 (List.map iD ((v49.1.set (v1).toNat 1))))), (5, some (.box [.fn 46 [.box 0 0, .box 2 0, .box 3 0, .box 5 0]]))] [] rfl (by simp only [go_sem, seval, AV.viewXs, AV.viewX, avD, c99, k105, a107, b108, c109, a112, b113, c114, a116, b117, c118]; try simp) (hrec (IntKind.i64.wrap (v1 + 1)) (IntKind.i64.wrap (v2 + v51)) v49.2.1 v4 v5 v49.2.2.1 v7 v8 (v49.1.set (v1).toNat 1) _ h119) (by simp [c99, k105, a107, b108, c109, a112, b113, c114, a116, b117, c118]) (by simp [c99, k105, a107, b108, c109, a112, b113, c114, a116, b117, c118]) (by simp [c99, k105, a107, b108, c109, a112, b113, c114, a116, b117, c118]) (by simp [c99, k105, a107, b108, c109, a112, b113, c114, a116, b117, c118]) (by simp [c99, k105, a107, b108, c109, a112, b113, c114, a116, b117, c118]) (by simp [c99, k105, a107, b108, c109, a112, b113, c114, a116, b117, c118]) (by simp [c99, k105, a107, b108, c109, a112, b113, c114, a116, b117, c118]) (by simp [c99, k105, a107, b108, c109, a112, b113, c114, a116, b117, c118]) (by simp [c99, k105, a107, b108, c109, a112, b113, c114, a116, b117, c118]) (by simp [c99, k105, a107, b108, c109, a112, b113, c114, a116, b117, c118]) ?_
    simp only [go_sem, seval, c99, k105, a107, b108, c109, a112, b113, c114, a116, b117, c118]
    refine hK _ _ (by kernel_rfl) (by simp [c99, k105, a107, b108, c109, a112, b113, c114, a116, b117, c118]) ?_
    clear hK K
    refine Walk.weaken ⟨[(0, .d (.int .i64 v1)), (2, .box 0 0), (4, .box 3 0), (9, .d (.int .i64 (v6.length : Int))), (11, .box 17 0)], [(0, some (.box [.d (.bool v52.2.1), .d (.sl (List.map iD v4)), .d (.int .i64 v5), .arr 1 0 v52.2.2.1.length])), (1, some (.arr 86 7 (List.map Node.D v52.2.2.1))), (2, some (.box [.d (.sl (List.map iD v7)), .d (.sl (List.map Row.D v8))])), (3, some (.box [.arr 4 0 v52.1.length])), (4, some (.arr 3 1 (List.map iD v52.1))), (5, some (.box [.fn 46 [.box 0 0, .box 2 0, .box 3 0, .box 5 0]])), (17, some (.box [.d (.int .i64 1), .d (.int .i64 v1), .d (.int .i64 v49.2.2.2), .d (.int .i64 v52.2.2.2), .d (.int .i64 0), .d (.int .i64 0), .d (.int .i64 0)]))]⟩ (by simp [c99, k105, a107, b108, c109, a112, b113, c114, a116, b117, c118] <;> omega) (by simp [c99, k105, a107, b108, c109, a112, b113, c114, a116, b117, c118] <;> omega) ?_
    refine Walk.seq (Walk.region' rfl fun K hK => ?_)
    obtain ⟨v53, r120, a121, b122, c123, hx⟩ := rd_elim hx
    simp only [go_sem, seval, c99, k105, a107, b108, c109, a112, b113, c114, a116, b117, c118, a121, b122, c123]
    repeat refine And.intro (by first | omega | (simp; done) | (simp; omega)) ?_
    refine hK _ ?_
    clear hK K
    refine Walk.weaken ⟨[(2, .box 0 0), (9, .d (.int .i64 (v6.length : Int))), (11, .box 17 0)], [(0, some (.box [.d (.bool v52.2.1), .d (.sl (List.map iD v4)), .d (.int .i64 v5), .arr 1 0 v52.2.2.1.length])), (1, some (.arr 86 7 (List.map Node.D v52.2.2.1))), (2, some (.box [.d (.sl (List.map iD v7)), .d (.sl (List.map Row.D v8))])), (3, some (.box [.arr 4 0 (((v52.1.set (v1).toNat (-1))).length)])), (4, some (.arr 3 1 (List.map iD ((v52.1.set (v1).toNat (-1)))))), (5, some (.box [.fn 46 [.box 0 0, .box 2 0, .box 3 0, .box 5 0]])), (17, some (.box [.d (.int .i64 1), .d (.int .i64 v1), .d (.int .i64 v49.2.2.2), .d (.int .i64 v52.2.2.2), .d (.int .i64 0), .d (.int .i64 0), .d (.int .i64 0)]))]⟩ (by simp [c99, k105, a107, b108, c109, a112, b113, c114, a116, b117, c118, a121, b122, c123] <;> omega) (by simp [c99, k105, a107, b108, c109, a112, b113, c114, a116, b117, c118, a121, b122, c123] <;> omega) ?_
    refine Walk.seq (Walk.region' rfl fun K hK => ?_)
    obtain ⟨v54, r124, a125, b126, c127, hx⟩ := rd_elim hx
    simp only [go_sem, seval, c99, k105, a107, b108, c109, a112, b113, c114, a116, b117, c118, a121, b122, c123, a125, b126, c127]
    repeat refine And.intro (by first | omega | (simp; done) | (simp; omega)) ?_
    refine hK _ ?_
    clear hK K
    refine Walk.weaken ⟨[(9, .d (.int .i64 (v6.length : Int)))], [(0, some (.box [.d (.bool v52.2.1), .d (.sl (List.map iD v4)), .d (.int .i64 v5), .arr 1 0 (((v52.2.2.1.set ((v6.length : Int)).toNat (Node.mk 1 v1 v49.2.2.2 v52.2.2.2 0 0 0))).length)])), (1, some (.arr 86 7 (List.map Node.D ((v52.2.2.1.set ((v6.length : Int)).toNat (Node.mk 1 v1 v49.2.2.2 v52.2.2.2 0 0 0)))))), (2, some (.box [.d (.sl (List.map iD v7)), .d (.sl (List.map Row.D v8))])), (3, some (.box [.arr 4 0 (((v52.1.set (v1).toNat (-1))).length)])), (4, some (.arr 3 1 (List.map iD ((v52.1.set (v1).toNat (-1)))))), (5, some (.box [.fn 46 [.box 0 0, .box 2 0, .box 3 0, .box 5 0]]))]⟩ (by simp [c99, k105, a107, b108, c109, a112, b113, c114, a116, b117, c118, a121, b122, c123, a125, b126, c127] <;> omega) (by simp [c99, k105, a107, b108, c109, a112, b113, c114, a116, b117, c118, a121, b122, c123, a125, b126, c127] <;> omega) ?_
    refine Walk.seq (Walk.region' rfl fun K hK => ?_)
    simp only [go_sem, seval, c99, k105, a107, b108, c109, a112, b113, c114, a116, b117, c118, a121, b122, c123, a125, b126, c127]
    refine hK _ ?_
    clear hK K
    obtain rfl := Option.some.inj hx
    exact Walk.ret ⟨by simp [c99, k105, a107, b108, c109, a112, b113, c114, a116, b117, c118, a121, b122, c123, a125, b126, c127], by simp [c99, k105, a107, b108, c109, a112, b113, c114, a116, b117, c118, a121, b122, c123, a125, b126, c127]⟩
  refine Walk.seq (Walk.region' rfl fun K hK => ?_)
  simp only [go_sem, seval, c99]
  refine VGdO hx (fun g128 hx => ?_) (fun g128 hx => ?_)
  · simp only [go_sem, seval, c99, g128]
    refine hK _ ?_
    clear hK K
    refine Walk.condO rfl hx (fun c129 hx => ?_) (fun c129 hx => ?_)
    · refine Walk.seq (Walk.region' rfl fun K hK => ?_)
      obtain ⟨k130, hx⟩ := chk_elim hx
      simp only [go_sem, seval, c99, g128, c129, k130]
      repeat refine And.intro (by first | omega | (simp; done) | (simp; omega)) ?_
      refine hK _ ?_
      clear hK K
      refine Walk.weaken ⟨[(9, .d (.int .i64 (v6.length : Int)))], [(0, some (.box [.d (.bool true), .d (.sl (List.map iD v4)), .d (.int .i64 v5), .arr 1 0 (((v6 ++ [(Node.mk 3 0 0 0 (-1) 0 1)])).length)])), (1, some (.arr 86 7 (List.map Node.D ((v6 ++ [(Node.mk 3 0 0 0 (-1) 0 1)]))))), (2, some (.box [.d (.sl (List.map iD v7)), .d (.sl (List.map Row.D v8))])), (3, some (.box [.arr 4 0 v9.length])), (4, some (.arr 3 1 (List.map iD v9))), (5, some (.box [.fn 46 [.box 0 0, .box 2 0, .box 3 0, .box 5 0]]))]⟩ (by simp [c99, g128, c129, k130] <;> omega) (by simp [c99, g128, c129, k130] <;> omega) ?_
      refine Walk.seq (Walk.region' rfl fun K hK => ?_)
      simp only [go_sem, seval, c99, g128, c129, k130]
      refine hK _ ?_
      clear hK K
      obtain rfl := Option.some.inj hx
      exact Walk.ret ⟨by simp [c99, g128, c129, k130], by simp [c99, g128, c129, k130]⟩
    refine Walk.skip ?_
    exact Walk.weaken _ (by simp [c99, g128, c129] <;> omega) (by simp [c99, g128, c129] <;> omega) (fin104 true hx)
  simp only [go_sem, seval, c99, g128]
  refine hK _ ?_
  clear hK K
  refine Walk.condF rfl (Walk.skip ?_)
  exact Walk.weaken _ (by simp [c99, g128] <;> omega) (by simp [c99, g128] <;> omega) (fin104 false hx)
theorem assembly_Solve_1_2_j0_mono {rec rec' : Int → Int → Bool → (List Int) → Int → (List Node) → (List Int) → (List Row) → (List Int) → Option (List Int × Bool × List Node × Int)} (h : ∀ (v1 : Int) (v2 : Int) (v3 : Bool) (v4 : List Int) (v5 : Int) (v6 : List Node) (v7 : List Int) (v8 : List Row) (v9 : List Int), Ole (rec v1 v2 v3 v4 v5 v6 v7 v8 v9) (rec' v1 v2 v3 v4 v5 v6 v7 v8 v9)) (v6 : List Node) (v9 : List Int) (v1 : Int) (v2 : Int) (v4 : List Int) (v5 : Int) (v7 : List Int) (v8 : List Row) (v47 : Bool) : Ole (assembly_Solve_1_2_j0 rec v6 v9 v1 v2 v4 v5 v7 v8 v47) (assembly_Solve_1_2_j0 rec' v6 v9 v1 v2 v4 v5 v7 v8 v47) := by
  unfold assembly_Solve_1_2_j0
  repeat (first | with_reducible exact Ole.refl _ | exact h _ _ _ _ _ _ _ _ _ | refine Ole.bind ?_ fun _ => ?_ | refine Ole.bif ?_ ?_ | refine Ole.chk ?_ | refine Ole.exit ?_ | refine Ole.iter fun _ => ?_)
theorem assembly_Solve_1_2_F_mono {rec rec' : Int → Int → Bool → (List Int) → Int → (List Node) → (List Int) → (List Row) → (List Int) → Option (List Int × Bool × List Node × Int)} (h : ∀ (v1 : Int) (v2 : Int) (v3 : Bool) (v4 : List Int) (v5 : Int) (v6 : List Node) (v7 : List Int) (v8 : List Row) (v9 : List Int), Ole (rec v1 v2 v3 v4 v5 v6 v7 v8 v9) (rec' v1 v2 v3 v4 v5 v6 v7 v8 v9)) (v1 : Int) (v2 : Int) (v3 : Bool) (v4 : List Int) (v5 : Int) (v6 : List Node) (v7 : List Int) (v8 : List Row) (v9 : List Int) : Ole (assembly_Solve_1_2_F rec v1 v2 v3 v4 v5 v6 v7 v8 v9) (assembly_Solve_1_2_F rec' v1 v2 v3 v4 v5 v6 v7 v8 v9) := by
  unfold assembly_Solve_1_2_F
  repeat (first | with_reducible exact Ole.refl _ | exact h _ _ _ _ _ _ _ _ _ | exact assembly_Solve_1_2_j0_mono h _ _ _ _ _ _ _ _ _ | refine Ole.bind ?_ fun _ => ?_ | refine Ole.bif ?_ ?_ | refine Ole.chk ?_ | refine Ole.exit ?_ | refine Ole.iter fun _ => ?_)
noncomputable def assembly_Solve_1_2_n : Nat → Int → Int → Bool → (List Int) → Int → (List Node) → (List Int) → (List Row) → (List Int) → Option (List Int × Bool × List Node × Int)
  | 0 => fun _ _ _ _ _ _ _ _ _ => none
  | k + 1 => assembly_Solve_1_2_F (assembly_Solve_1_2_n k)
theorem assembly_Solve_1_2_n_ok : ∀ (k : Nat) (v1 : Int) (v2 : Int) (v3 : Bool) (v4 : List Int) (v5 : Int) (v6 : List Node) (v7 : List Int) (v8 : List Row) (v9 : List Int) (r : List Int × Bool × List Node × Int), assembly_Solve_1_2_n k v1 v2 v3 v4 v5 v6 v7 v8 v9 = some r → ACalls Try.prog 46 [.d (.int .i64 v1), .d (.int .i64 v2), .box 0 0, .box 2 0, .box 3 0, .box 5 0] [(0, some (.box [.d (.bool v3), .d (.sl (List.map iD v4)), .d (.int .i64 v5), .arr 1 0 v6.length])), (1, some (.arr 86 7 (List.map Node.D v6))), (2, some (.box [.d (.sl (List.map iD v7)), .d (.sl (List.map Row.D v8))])), (3, some (.box [.arr 4 0 v9.length])), (4, some (.arr 3 1 (List.map iD v9))), (5, some (.box [.fn 46 [.box 0 0, .box 2 0, .box 3 0, .box 5 0]]))] (.d (.int .i64 r.2.2.2)) [(0, some (.box [.d (.bool r.2.1), .d (.sl (List.map iD v4)), .d (.int .i64 v5), .arr 1 0 r.2.2.1.length])), (1, some (.arr 86 7 (List.map Node.D r.2.2.1))), (2, some (.box [.d (.sl (List.map iD v7)), .d (.sl (List.map Row.D v8))])), (3, some (.box [.arr 4 0 r.1.length])), (4, some (.arr 3 1 (List.map iD r.1))), (5, some (.box [.fn 46 [.box 0 0, .box 2 0, .box 3 0, .box 5 0]]))]
  | 0, _, _, _, _, _, _, _, _, _, _, h => by simp [assembly_Solve_1_2_n] at h
  | k + 1, v1, v2, v3, v4, v5, v6, v7, v8, v9, r, h => assembly_Solve_1_2_F_ok (assembly_Solve_1_2_n k) (assembly_Solve_1_2_n_ok k) v1 v2 v3 v4 v5 v6 v7 v8 v9 r h
theorem assembly_Solve_1_2_n_mono : ∀ (k : Nat) (v1 : Int) (v2 : Int) (v3 : Bool) (v4 : List Int) (v5 : Int) (v6 : List Node) (v7 : List Int) (v8 : List Row) (v9 : List Int), Ole (assembly_Solve_1_2_n k v1 v2 v3 v4 v5 v6 v7 v8 v9) (assembly_Solve_1_2_n (k + 1) v1 v2 v3 v4 v5 v6 v7 v8 v9)
  | 0, _, _, _, _, _, _, _, _, _ => fun r h => by simp [assembly_Solve_1_2_n] at h
  | k + 1, v1, v2, v3, v4, v5, v6, v7, v8, v9 => assembly_Solve_1_2_F_mono (assembly_Solve_1_2_n_mono k) v1 v2 v3 v4 v5 v6 v7 v8 v9
noncomputable def assembly_Solve_1_2 (v1 : Int) (v2 : Int) (v3 : Bool) (v4 : List Int) (v5 : Int) (v6 : List Node) (v7 : List Int) (v8 : List Row) (v9 : List Int) : Option (List Int × Bool × List Node × Int) := fixO fun k => assembly_Solve_1_2_n k v1 v2 v3 v4 v5 v6 v7 v8 v9
theorem assembly_Solve_1_2_ok (v1 : Int) (v2 : Int) (v3 : Bool) (v4 : List Int) (v5 : Int) (v6 : List Node) (v7 : List Int) (v8 : List Row) (v9 : List Int) (r : List Int × Bool × List Node × Int) (hx : assembly_Solve_1_2 v1 v2 v3 v4 v5 v6 v7 v8 v9 = some r) : ACalls Try.prog 46 [.d (.int .i64 v1), .d (.int .i64 v2), .box 0 0, .box 2 0, .box 3 0, .box 5 0] [(0, some (.box [.d (.bool v3), .d (.sl (List.map iD v4)), .d (.int .i64 v5), .arr 1 0 v6.length])), (1, some (.arr 86 7 (List.map Node.D v6))), (2, some (.box [.d (.sl (List.map iD v7)), .d (.sl (List.map Row.D v8))])), (3, some (.box [.arr 4 0 v9.length])), (4, some (.arr 3 1 (List.map iD v9))), (5, some (.box [.fn 46 [.box 0 0, .box 2 0, .box 3 0, .box 5 0]]))] (.d (.int .i64 r.2.2.2)) [(0, some (.box [.d (.bool r.2.1), .d (.sl (List.map iD v4)), .d (.int .i64 v5), .arr 1 0 r.2.2.1.length])), (1, some (.arr 86 7 (List.map Node.D r.2.2.1))), (2, some (.box [.d (.sl (List.map iD v7)), .d (.sl (List.map Row.D v8))])), (3, some (.box [.arr 4 0 r.1.length])), (4, some (.arr 3 1 (List.map iD r.1))), (5, some (.box [.fn 46 [.box 0 0, .box 2 0, .box 3 0, .box 5 0]]))] := by
  obtain ⟨k, hk⟩ := fixO_some hx
  exact assembly_Solve_1_2_n_ok k v1 v2 v3 v4 v5 v6 v7 v8 v9 r hk
theorem assembly_Solve_1_2_eq (k : Nat) (v1 : Int) (v2 : Int) (v3 : Bool) (v4 : List Int) (v5 : Int) (v6 : List Node) (v7 : List Int) (v8 : List Row) (v9 : List Int) (r : List Int × Bool × List Node × Int) (hk : assembly_Solve_1_2_n k v1 v2 v3 v4 v5 v6 v7 v8 v9 = some r) : assembly_Solve_1_2 v1 v2 v3 v4 v5 v6 v7 v8 v9 = some r := fixO_eq (fun k => assembly_Solve_1_2_n_mono k v1 v2 v3 v4 v5 v6 v7 v8 v9) hk
noncomputable def assembly_Solve_1_j0 (v8 : List Int) (v1 : Int) (v2 : Int) (v4 : List Int) (v5 : Int) (v6 : List Int) (v7 : List Row) (v24 : Bool) : Option (List Int × Bool × List Node) :=
  (rd v8 v1).bind fun v25 => (assembly_Solve_1_2 (IntKind.i64.wrap (v1 + 1)) v2 v24 v4 v5 [(Node.mk 0 0 0 0 0 0 0)] v6 v7 (v8.set (v1).toNat 0)).bind fun v26 => (rd v26.1 v1).bind fun v27 => (rd v6 v1).bind fun v28 => (assembly_Solve_1_2 (IntKind.i64.wrap (v1 + 1)) (IntKind.i64.wrap (v2 + v28)) v26.2.1 v4 v5 v26.2.2.1 v6 v7 (v26.1.set (v1).toNat 1)).bind fun v29 => (rd v29.1 v1).bind fun v30 => (rd v29.2.2.1 0).bind fun v31 => some (((v29.1.set (v1).toNat (-1)), v29.2.1, (v29.2.2.1.set 0 (Node.mk 1 v1 v26.2.2.2 v29.2.2.2 0 0 0))) : List Int × Bool × List Node)
noncomputable def assembly_Solve_1 (v1 : Int) (v2 : Int) (v3 : Bool) (v4 : List Int) (v5 : Int) (v6 : List Int) (v7 : List Row) (v8 : List Int) : Option (List Int × Bool × List Node) :=
  (blueprint_Dead v6 v7 v8).bind fun v23 => bif decide (v23 ≥ 0) then (some ((v8, v3, [(Node.mk 2 0 0 0 v23 0 0)]) : List Int × Bool × List Node)) else (bif v3 then (bif decide (v2 ≥ v5) then (some ((v8, true, [(Node.mk 3 0 0 0 (-1) 0 1)]) : List Int × Bool × List Node)) else (assembly_Solve_1_j0 v8 v1 v2 v4 v5 v6 v7 true)) else (assembly_Solve_1_j0 v8 v1 v2 v4 v5 v6 v7 false))
theorem assembly_Solve_1_ok (v1 : Int) (v2 : Int) (v3 : Bool) (v4 : List Int) (v5 : Int) (v6 : List Int) (v7 : List Row) (v8 : List Int) (r : List Int × Bool × List Node) (hx : assembly_Solve_1 v1 v2 v3 v4 v5 v6 v7 v8 = some r) :
    ACalls Try.prog 46 [.d (.int .i64 v1), .d (.int .i64 v2), .box 0 0, .box 1 0, .box 2 0, .box 4 0] [(0, some (.box [.d (.bool v3), .d (.sl (List.map iD v4)), .d (.int .i64 v5), .nils])), (1, some (.box [.d (.sl (List.map iD v6)), .d (.sl (List.map Row.D v7))])), (2, some (.box [.arr 3 0 v8.length])), (3, some (.arr 3 1 (List.map iD v8))), (4, some (.box [.fn 46 [.box 0 0, .box 1 0, .box 2 0, .box 4 0]]))] (.d (.int .i64 0)) [(0, some (.box [.d (.bool r.2.1), .d (.sl (List.map iD v4)), .d (.int .i64 v5), .arr 2000 0 r.2.2.length])), (1, some (.box [.d (.sl (List.map iD v6)), .d (.sl (List.map Row.D v7))])), (2, some (.box [.arr 3 0 r.1.length])), (3, some (.arr 3 1 (List.map iD r.1))), (4, some (.box [.fn 46 [.box 0 0, .box 1 0, .box 2 0, .box 4 0]])), (2000, some (.arr 86 7 (List.map Node.D r.2.2)))] := by
  refine ACalls.of_sem (n := 84) 5 [8] (fn := Try.f46) Try.func46 rfl rfl (.one rfl) rfl (by simp) (by intro i; simp only [hget]; (repeat' split) <;> simp <;> omega) ?_
  unfold assembly_Solve_1 at hx
  refine Walk.seq (Walk.region' rfl fun K hK => ?_)
  simp only [go_sem, seval]
  refine hK _ ?_
  clear hK K
  refine Walk.seq (Walk.region' rfl fun K hK => ?_)
  simp only [go_sem, seval]
  refine hK _ ?_
  clear hK K
  refine Walk.seq (Walk.seq (Walk.region' rfl fun K hK => ?_))
  obtain ⟨v23, h35, hx⟩ := bind_elim hx
  simp only [go_sem, seval]
  refine VCl.lent rfl (by simp only [go_sem, seval]; try simp) (blueprint_Dead_ok v6 v7 v8 _ h35) (by simp) (by simp) (by simp) (by simp) (by simp) (by simp) (by simp) ?_
  simp only [go_sem, seval]
  refine hK _ ?_
  clear hK K
  refine Walk.seq (Walk.region' rfl fun K hK => ?_)
  simp only [go_sem, seval]
  refine hK _ ?_
  clear hK K
  refine Walk.condO rfl hx (fun c38 hx => ?_) (fun c38 hx => ?_)
  · refine Walk.seq (Walk.region' rfl fun K hK => ?_)
    simp only [go_sem, seval, c38]
    refine hK _ ?_
    clear hK K
    refine Walk.weaken ⟨[(9, .d (.int .i64 0))], [(0, some (.box [.d (.bool v3), .d (.sl (List.map iD v4)), .d (.int .i64 v5), .arr 30 0 1])), (1, some (.box [.d (.sl (List.map iD v6)), .d (.sl (List.map Row.D v7))])), (2, some (.box [.arr 3 0 v8.length])), (3, some (.arr 3 1 (List.map iD v8))), (4, some (.box [.fn 46 [.box 0 0, .box 1 0, .box 2 0, .box 4 0]])), (30, some (.arr 86 7 (List.map Node.D [(Node.mk 2 0 0 0 v23 0 0)])))]⟩ (by simp [c38] <;> omega) (by simp [c38] <;> omega) ?_
    refine Walk.seq (Walk.region' rfl fun K hK => ?_)
    simp only [go_sem, seval, c38]
    refine hK _ ?_
    clear hK K
    refine Walk.weaken ⟨[(8, .d (.int .i64 0))], [(0, some (.box [.d (.bool v3), .d (.sl (List.map iD v4)), .d (.int .i64 v5), .arr 30 0 1])), (1, some (.box [.d (.sl (List.map iD v6)), .d (.sl (List.map Row.D v7))])), (2, some (.box [.arr 3 0 v8.length])), (3, some (.arr 3 1 (List.map iD v8))), (4, some (.box [.fn 46 [.box 0 0, .box 1 0, .box 2 0, .box 4 0]])), (30, some (.arr 86 7 (List.map Node.D [(Node.mk 2 0 0 0 v23 0 0)])))]⟩ (by simp [c38] <;> omega) (by simp [c38] <;> omega) ?_
    refine Walk.rename 30 2000 (by omega) (by omega) (by simp) (by simp) ?_
    simp only [renE, renL, AV.ren, AV.rens, AObj.ren, swp, Option.map_some, reduceIte, Nat.reduceEqDiff]
    obtain rfl := Option.some.inj hx
    exact Walk.ret ⟨by simp [c38], by simp [c38]⟩
  refine Walk.skip (Walk.seq (Walk.join (G := Bool) (fun g => ⟨[(0, .d (.int .i64 v1)), (1, .d (.int .i64 v2)), (2, .box 0 0), (3, .box 1 0), (4, .box 2 0), (5, .box 4 0), (9, .d (.int .i64 0))], [(0, some (.box [.d (.bool g), .d (.sl (List.map iD v4)), .d (.int .i64 v5), .nils])), (1, some (.box [.d (.sl (List.map iD v6)), .d (.sl (List.map Row.D v7))])), (2, some (.box [.arr 3 0 v8.length])), (3, some (.arr 3 1 (List.map iD v8))), (4, some (.box [.fn 46 [.box 0 0, .box 1 0, .box 2 0, .box 4 0]]))]⟩) (fun g => assembly_Solve_1_j0 v8 v1 v2 v4 v5 v6 v7 g) hx (fun v24 hx => ?_) (fun fin41 => ?_)))
  · unfold assembly_Solve_1_j0 at hx
    try dsimp only at hx ⊢
    refine Walk.seq (Walk.region' rfl fun K hK => ?_)
    simp only [go_sem, seval, c38]
    refine hK _ ?_
    clear hK K
    refine Walk.weaken ⟨[(0, .d (.int .i64 v1)), (1, .d (.int .i64 v2)), (2, .box 0 0), (3, .box 1 0), (4, .box 2 0), (5, .box 4 0), (9, .d (.int .i64 0))], [(0, some (.box [.d (.bool v24), .d (.sl (List.map iD v4)), .d (.int .i64 v5), .arr 52 0 1])), (1, some (.box [.d (.sl (List.map iD v6)), .d (.sl (List.map Row.D v7))])), (2, some (.box [.arr 3 0 v8.length])), (3, some (.arr 3 1 (List.map iD v8))), (4, some (.box [.fn 46 [.box 0 0, .box 1 0, .box 2 0, .box 4 0]])), (52, some (.arr 86 7 (List.map Node.D [(Node.mk 0 0 0 0 0 0 0)])))]⟩ (by simp [c38] <;> omega) (by simp [c38] <;> omega) ?_
    refine Walk.seq (Walk.region' rfl fun K hK => ?_)
    simp only [go_sem, seval, c38]
    refine hK _ ?_
    clear hK K
    refine Walk.seq (Walk.region' rfl fun K hK => ?_)
    obtain ⟨v25, r42, a43, b44, c45, hx⟩ := rd_elim hx
    simp only [go_sem, seval, c38, a43, b44, c45]
    repeat refine And.intro (by first | omega | (simp; done) | (simp; omega)) ?_
    refine hK _ ?_
    clear hK K
    refine Walk.weaken ⟨[(0, .d (.int .i64 v1)), (1, .d (.int .i64 v2)), (2, .box 0 0), (3, .box 1 0), (4, .box 2 0), (5, .box 4 0), (9, .d (.int .i64 0)), (11, .box 16 0)], [(0, some (.box [.d (.bool v24), .d (.sl (List.map iD v4)), .d (.int .i64 v5), .arr 52 0 1])), (1, some (.box [.d (.sl (List.map iD v6)), .d (.sl (List.map Row.D v7))])), (2, some (.box [.arr 3 0 (((v8.set (v1).toNat 0)).length)])), (3, some (.arr 3 1 (List.map iD ((v8.set (v1).toNat 0))))), (4, some (.box [.fn 46 [.box 0 0, .box 1 0, .box 2 0, .box 4 0]])), (16, some (.box [.d (.int .i64 1), .d (.int .i64 v1), .d (.int .i64 0), .d (.int .i64 0), .d (.int .i64 0), .d (.int .i64 0), .d (.int .i64 0)])), (52, some (.arr 86 7 (List.map Node.D [(Node.mk 0 0 0 0 0 0 0)])))]⟩ (by simp [c38, a43, b44, c45] <;> omega) (by simp [c38, a43, b44, c45] <;> omega) ?_
    refine Walk.seq (Walk.region' rfl fun K hK => ?_)
    obtain ⟨v26, h46, hx⟩ := bind_elim hx
    have w47 := ((((((assembly_Solve_1_2_ok (IntKind.i64.wrap (v1 + 1)) v2 v24 v4 v5 [(Node.mk 0 0 0 0 0 0 0)] v6 v7 (v8.set (v1).toNat 0) _ h46).swap 1 52).swap 2 1).swap 3 2).swap 4 3).swap 5 4)
    simp only [renE, renL, AV.ren, AV.rens, AObj.ren, swp, Option.map_some, reduceIte, Nat.reduceEqDiff] at w47
    simp only [go_sem, seval, c38, a43, b44, c45]
    refine VCl.sub [(0, some (.box [.d (.bool v24), .d (.sl (List.map iD v4)), .d (.int .i64 v5), .arr 52 0 1])), (52, some (.arr 86 7 (List.map Node.D [(Node.mk 0 0 0 0 0 0 0)]))), (1, some (.box [.d (.sl (List.map iD v6)), .d (.sl (List.map Row.D v7))])), (2, some (.box [.arr 3 0 (((v8.set (v1).toNat 0)).length)])), (3, some (.arr 3 1 (List.map iD ((v8.set (v1).toNat 0))))), (4, some (.box [.fn 46 [.box 0 0, .box 1 0, .box 2 0, .box 4 0]]))] [] rfl (by simp only [go_sem, seval, AV.viewXs, AV.viewX, avD, c38, a43, b44, c45]; try simp) (w47) (by simp [c38, a43, b44, c45]) (by simp [c38, a43, b44, c45]) (by simp [c38, a43, b44, c45]) (by simp [c38, a43, b44, c45]) (by simp [c38, a43, b44, c45]) (by simp [c38, a43, b44, c45]) (by simp [c38, a43, b44, c45]) (by simp [c38, a43, b44, c45]) (by simp [c38, a43, b44, c45]) (by simp [c38, a43, b44, c45]) ?_
    simp only [go_sem, seval, c38, a43, b44, c45]
    refine hK _ ?_
    clear hK K
    refine Walk.weaken ⟨[(0, .d (.int .i64 v1)), (1, .d (.int .i64 v2)), (2, .box 0 0), (3, .box 1 0), (4, .box 2 0), (5, .box 4 0), (9, .d (.int .i64 0)), (11, .box 16 0)], [(0, some (.box [.d (.bool v26.2.1), .d (.sl (List.map iD v4)), .d (.int .i64 v5), .arr 52 0 v26.2.2.1.length])), (1, some (.box [.d (.sl (List.map iD v6)), .d (.sl (List.map Row.D v7))])), (2, some (.box [.arr 3 0 v26.1.length])), (3, some (.arr 3 1 (List.map iD v26.1))), (4, some (.box [.fn 46 [.box 0 0, .box 1 0, .box 2 0, .box 4 0]])), (16, some (.box [.d (.int .i64 1), .d (.int .i64 v1), .d (.int .i64 v26.2.2.2), .d (.int .i64 0), .d (.int .i64 0), .d (.int .i64 0), .d (.int .i64 0)])), (52, some (.arr 86 7 (List.map Node.D v26.2.2.1)))]⟩ (by simp [c38, a43, b44, c45] <;> omega) (by simp [c38, a43, b44, c45] <;> omega) ?_
    refine Walk.seq (Walk.region' rfl fun K hK => ?_)
    obtain ⟨v27, r48, a49, b50, c51, hx⟩ := rd_elim hx
    simp only [go_sem, seval, c38, a43, b44, c45, a49, b50, c51]
    repeat refine And.intro (by first | omega | (simp; done) | (simp; omega)) ?_
    refine hK _ ?_
    clear hK K
    refine Walk.weaken ⟨[(0, .d (.int .i64 v1)), (1, .d (.int .i64 v2)), (2, .box 0 0), (3, .box 1 0), (4, .box 2 0), (5, .box 4 0), (9, .d (.int .i64 0)), (11, .box 16 0)], [(0, some (.box [.d (.bool v26.2.1), .d (.sl (List.map iD v4)), .d (.int .i64 v5), .arr 52 0 v26.2.2.1.length])), (1, some (.box [.d (.sl (List.map iD v6)), .d (.sl (List.map Row.D v7))])), (2, some (.box [.arr 3 0 (((v26.1.set (v1).toNat 1)).length)])), (3, some (.arr 3 1 (List.map iD ((v26.1.set (v1).toNat 1))))), (4, some (.box [.fn 46 [.box 0 0, .box 1 0, .box 2 0, .box 4 0]])), (16, some (.box [.d (.int .i64 1), .d (.int .i64 v1), .d (.int .i64 v26.2.2.2), .d (.int .i64 0), .d (.int .i64 0), .d (.int .i64 0), .d (.int .i64 0)])), (52, some (.arr 86 7 (List.map Node.D v26.2.2.1)))]⟩ (by simp [c38, a43, b44, c45, a49, b50, c51] <;> omega) (by simp [c38, a43, b44, c45, a49, b50, c51] <;> omega) ?_
    refine Walk.seq (Walk.drawn' rfl mixed fun K hK => ?_)
    obtain ⟨v28, r52, a53, b54, c55, hx⟩ := rd_elim hx
    obtain ⟨v29, h56, hx⟩ := bind_elim hx
    have w57 := ((((((assembly_Solve_1_2_ok (IntKind.i64.wrap (v1 + 1)) (IntKind.i64.wrap (v2 + v28)) v26.2.1 v4 v5 v26.2.2.1 v6 v7 (v26.1.set (v1).toNat 1) _ h56).swap 1 52).swap 2 1).swap 3 2).swap 4 3).swap 5 4)
    simp only [renE, renL, AV.ren, AV.rens, AObj.ren, swp, Option.map_some, reduceIte, Nat.reduceEqDiff] at w57
    simp only [go_sem, seval, c38, a43, b44, c45, a49, b50, c51, a53, b54, c55]
    repeat refine And.intro (by first | omega | (simp; done) | (simp; omega)) ?_
    refine VCl.sub [(0, some (.box [.d (.bool v26.2.1), .d (.sl (List.map iD v4)), .d (.int .i64 v5), .arr 52 0 v26.2.2.1.length])), (52, some (.arr 86 7 (List.map Node.D v26.2.2.1))), (1, some (.box [.d (.sl (List.map iD v6)), .d (.sl (List.map Row.D v7))])), (2, some (.box [.arr 3 0 (((v26.1.set (v1).toNat 1)).length)])), (3, some (.arr 3 1 (List.map iD ((v26.1.set (v1).toNat 1))))), (4, some (.box [.fn 46 [.box 0 0, .box 1 0, .box 2 0, .box 4 0]]))] [] rfl (by simp only [go_sem, seval, AV.viewXs, AV.viewX, avD, c38, a43, b44, c45, a49, b50, c51, a53, b54, c55]; try simp) (w57) (by simp [c38, a43, b44, c45, a49, b50, c51, a53, b54, c55]) (by simp [c38, a43, b44, c45, a49, b50, c51, a53, b54, c55]) (by simp [c38, a43, b44, c45, a49, b50, c51, a53, b54, c55]) (by simp [c38, a43, b44, c45, a49, b50, c51, a53, b54, c55]) (by simp [c38, a43, b44, c45, a49, b50, c51, a53, b54, c55]) (by simp [c38, a43, b44, c45, a49, b50, c51, a53, b54, c55]) (by simp [c38, a43, b44, c45, a49, b50, c51, a53, b54, c55]) (by simp [c38, a43, b44, c45, a49, b50, c51, a53, b54, c55]) (by simp [c38, a43, b44, c45, a49, b50, c51, a53, b54, c55]) (by simp [c38, a43, b44, c45, a49, b50, c51, a53, b54, c55]) ?_
    simp only [go_sem, seval, c38, a43, b44, c45, a49, b50, c51, a53, b54, c55]
    refine hK _ _ (by kernel_rfl) (by simp [c38, a43, b44, c45, a49, b50, c51, a53, b54, c55]) ?_
    clear hK K
    refine Walk.weaken ⟨[(0, .d (.int .i64 v1)), (2, .box 0 0), (4, .box 2 0), (9, .d (.int .i64 0)), (11, .box 16 0)], [(0, some (.box [.d (.bool v29.2.1), .d (.sl (List.map iD v4)), .d (.int .i64 v5), .arr 52 0 v29.2.2.1.length])), (1, some (.box [.d (.sl (List.map iD v6)), .d (.sl (List.map Row.D v7))])), (2, some (.box [.arr 3 0 v29.1.length])), (3, some (.arr 3 1 (List.map iD v29.1))), (4, some (.box [.fn 46 [.box 0 0, .box 1 0, .box 2 0, .box 4 0]])), (16, some (.box [.d (.int .i64 1), .d (.int .i64 v1), .d (.int .i64 v26.2.2.2), .d (.int .i64 v29.2.2.2), .d (.int .i64 0), .d (.int .i64 0), .d (.int .i64 0)])), (52, some (.arr 86 7 (List.map Node.D v29.2.2.1)))]⟩ (by simp [c38, a43, b44, c45, a49, b50, c51, a53, b54, c55] <;> omega) (by simp [c38, a43, b44, c45, a49, b50, c51, a53, b54, c55] <;> omega) ?_
    refine Walk.seq (Walk.region' rfl fun K hK => ?_)
    obtain ⟨v30, r58, a59, b60, c61, hx⟩ := rd_elim hx
    simp only [go_sem, seval, c38, a43, b44, c45, a49, b50, c51, a53, b54, c55, a59, b60, c61]
    repeat refine And.intro (by first | omega | (simp; done) | (simp; omega)) ?_
    refine hK _ ?_
    clear hK K
    refine Walk.weaken ⟨[(2, .box 0 0), (9, .d (.int .i64 0)), (11, .box 16 0)], [(0, some (.box [.d (.bool v29.2.1), .d (.sl (List.map iD v4)), .d (.int .i64 v5), .arr 52 0 v29.2.2.1.length])), (1, some (.box [.d (.sl (List.map iD v6)), .d (.sl (List.map Row.D v7))])), (2, some (.box [.arr 3 0 (((v29.1.set (v1).toNat (-1))).length)])), (3, some (.arr 3 1 (List.map iD ((v29.1.set (v1).toNat (-1)))))), (4, some (.box [.fn 46 [.box 0 0, .box 1 0, .box 2 0, .box 4 0]])), (16, some (.box [.d (.int .i64 1), .d (.int .i64 v1), .d (.int .i64 v26.2.2.2), .d (.int .i64 v29.2.2.2), .d (.int .i64 0), .d (.int .i64 0), .d (.int .i64 0)])), (52, some (.arr 86 7 (List.map Node.D v29.2.2.1)))]⟩ (by simp [c38, a43, b44, c45, a49, b50, c51, a53, b54, c55, a59, b60, c61] <;> omega) (by simp [c38, a43, b44, c45, a49, b50, c51, a53, b54, c55, a59, b60, c61] <;> omega) ?_
    refine Walk.seq (Walk.region' rfl fun K hK => ?_)
    obtain ⟨v31, r62, a63, b64, c65, hx⟩ := rd_elim hx
    simp only [go_sem, seval, c38, a43, b44, c45, a49, b50, c51, a53, b54, c55, a59, b60, c61, a63, b64, c65]
    repeat refine And.intro (by first | omega | (simp; done) | (simp; omega)) ?_
    refine hK _ ?_
    clear hK K
    refine Walk.weaken ⟨[(9, .d (.int .i64 0))], [(0, some (.box [.d (.bool v29.2.1), .d (.sl (List.map iD v4)), .d (.int .i64 v5), .arr 52 0 (((v29.2.2.1.set 0 (Node.mk 1 v1 v26.2.2.2 v29.2.2.2 0 0 0))).length)])), (1, some (.box [.d (.sl (List.map iD v6)), .d (.sl (List.map Row.D v7))])), (2, some (.box [.arr 3 0 (((v29.1.set (v1).toNat (-1))).length)])), (3, some (.arr 3 1 (List.map iD ((v29.1.set (v1).toNat (-1)))))), (4, some (.box [.fn 46 [.box 0 0, .box 1 0, .box 2 0, .box 4 0]])), (52, some (.arr 86 7 (List.map Node.D ((v29.2.2.1.set 0 (Node.mk 1 v1 v26.2.2.2 v29.2.2.2 0 0 0))))))]⟩ (by simp [c38, a43, b44, c45, a49, b50, c51, a53, b54, c55, a59, b60, c61, a63, b64, c65] <;> omega) (by simp [c38, a43, b44, c45, a49, b50, c51, a53, b54, c55, a59, b60, c61, a63, b64, c65] <;> omega) ?_
    refine Walk.seq (Walk.region' rfl fun K hK => ?_)
    simp only [go_sem, seval, c38, a43, b44, c45, a49, b50, c51, a53, b54, c55, a59, b60, c61, a63, b64, c65]
    refine hK _ ?_
    clear hK K
    refine Walk.weaken ⟨[(8, .d (.int .i64 0))], [(0, some (.box [.d (.bool v29.2.1), .d (.sl (List.map iD v4)), .d (.int .i64 v5), .arr 52 0 (((v29.2.2.1.set 0 (Node.mk 1 v1 v26.2.2.2 v29.2.2.2 0 0 0))).length)])), (1, some (.box [.d (.sl (List.map iD v6)), .d (.sl (List.map Row.D v7))])), (2, some (.box [.arr 3 0 (((v29.1.set (v1).toNat (-1))).length)])), (3, some (.arr 3 1 (List.map iD ((v29.1.set (v1).toNat (-1)))))), (4, some (.box [.fn 46 [.box 0 0, .box 1 0, .box 2 0, .box 4 0]])), (52, some (.arr 86 7 (List.map Node.D ((v29.2.2.1.set 0 (Node.mk 1 v1 v26.2.2.2 v29.2.2.2 0 0 0))))))]⟩ (by simp [c38, a43, b44, c45, a49, b50, c51, a53, b54, c55, a59, b60, c61, a63, b64, c65] <;> omega) (by simp [c38, a43, b44, c45, a49, b50, c51, a53, b54, c55, a59, b60, c61, a63, b64, c65] <;> omega) ?_
    refine Walk.rename 52 2000 (by omega) (by omega) (by simp) (by simp) ?_
    simp only [renE, renL, AV.ren, AV.rens, AObj.ren, swp, Option.map_some, reduceIte, Nat.reduceEqDiff]
    obtain rfl := Option.some.inj hx
    exact Walk.ret ⟨by simp [c38, a43, b44, c45, a49, b50, c51, a53, b54, c55, a59, b60, c61, a63, b64, c65], by simp [c38, a43, b44, c45, a49, b50, c51, a53, b54, c55, a59, b60, c61, a63, b64, c65]⟩
  refine Walk.seq (Walk.region' rfl fun K hK => ?_)
  simp only [go_sem, seval, c38]
  refine VGdO hx (fun g66 hx => ?_) (fun g66 hx => ?_)
  · simp only [go_sem, seval, c38, g66]
    refine hK _ ?_
    clear hK K
    refine Walk.condO rfl hx (fun c67 hx => ?_) (fun c67 hx => ?_)
    · refine Walk.seq (Walk.region' rfl fun K hK => ?_)
      simp only [go_sem, seval, c38, g66, c67]
      refine hK _ ?_
      clear hK K
      refine Walk.weaken ⟨[(9, .d (.int .i64 0))], [(0, some (.box [.d (.bool true), .d (.sl (List.map iD v4)), .d (.int .i64 v5), .arr 45 0 1])), (1, some (.box [.d (.sl (List.map iD v6)), .d (.sl (List.map Row.D v7))])), (2, some (.box [.arr 3 0 v8.length])), (3, some (.arr 3 1 (List.map iD v8))), (4, some (.box [.fn 46 [.box 0 0, .box 1 0, .box 2 0, .box 4 0]])), (45, some (.arr 86 7 (List.map Node.D [(Node.mk 3 0 0 0 (-1) 0 1)])))]⟩ (by simp [c38, g66, c67] <;> omega) (by simp [c38, g66, c67] <;> omega) ?_
      refine Walk.seq (Walk.region' rfl fun K hK => ?_)
      simp only [go_sem, seval, c38, g66, c67]
      refine hK _ ?_
      clear hK K
      refine Walk.weaken ⟨[(8, .d (.int .i64 0))], [(0, some (.box [.d (.bool true), .d (.sl (List.map iD v4)), .d (.int .i64 v5), .arr 45 0 1])), (1, some (.box [.d (.sl (List.map iD v6)), .d (.sl (List.map Row.D v7))])), (2, some (.box [.arr 3 0 v8.length])), (3, some (.arr 3 1 (List.map iD v8))), (4, some (.box [.fn 46 [.box 0 0, .box 1 0, .box 2 0, .box 4 0]])), (45, some (.arr 86 7 (List.map Node.D [(Node.mk 3 0 0 0 (-1) 0 1)])))]⟩ (by simp [c38, g66, c67] <;> omega) (by simp [c38, g66, c67] <;> omega) ?_
      refine Walk.rename 45 2000 (by omega) (by omega) (by simp) (by simp) ?_
      simp only [renE, renL, AV.ren, AV.rens, AObj.ren, swp, Option.map_some, reduceIte, Nat.reduceEqDiff]
      obtain rfl := Option.some.inj hx
      exact Walk.ret ⟨by simp [c38, g66, c67], by simp [c38, g66, c67]⟩
    refine Walk.skip ?_
    exact Walk.weaken _ (by simp [c38, g66, c67] <;> omega) (by simp [c38, g66, c67] <;> omega) (fin41 true hx)
  simp only [go_sem, seval, c38, g66]
  refine hK _ ?_
  clear hK K
  refine Walk.condF rfl (Walk.skip ?_)
  exact Walk.weaken _ (by simp [c38, g66] <;> omega) (by simp [c38, g66] <;> omega) (fin41 false hx)
end Go.AX

