import Derived.Test.YtebcedhhcpibpaaE9
set_option linter.unusedVariables false
set_option linter.unusedSimpArgs false
set_option maxRecDepth 20000
set_option maxHeartbeats 4000000
namespace Go.AX
open Go.Proofs
attribute [local simp] spl_len take_snoc take_cons_drop cons_rep cons_tail iA bA take_set_len idsL_rep idsL_iA idsL_bA idsL_sA idsL_set_mem idsL_sub sA_def List.map_replicate frVs_setS frVs_self frV_arr take_map_len subE subH eget hget upE upV upH upO_refl upO_box upVs freshE freshH freshO AV.ids AV.idsL ids_box ids_arr ids_pre idsL_room frE frV_refl frV_arr frH frO_refl frO_box frVs newOk evalA AV.viewXs AV.viewX AV.viewXP AV.viewXPs AV.viewPs AV.viewP AV.flat AV.flatL D.flat arrsOnly flatObjs newNames subOf closedIn allSome dstOk newOrOld avD avDp zv_i64 zv_u8 zv_bool zv_nils zv_nilp zv_str retAV aLoad cut TI.isAgg nlE nlH nlO_refl nlO_box nlVs nlV_refl nlV_nil iD uD bD tD lD List.map_set ti1 ti2 ti3 ti4 ti5 ti6 ti7 ti8 ti9 ti10 ti11 ti12 ti13 ti14 ti15 ti16 ti17 ti18 ti19 ti21 ti22 ti23 ti24 ti25 ti26 ti27 ti28 ti29 ti30 ti32 ti33 ti34 ti35 ti36 ti37 ti38 ti40 ti41 ti42 ti43 ti44 ti45 ti46 ti47 ti48 ti49 ti50 ti51 ti52 ti54 ti55 ti56 ti57 ti58 ti59 ti61 ti62 ti63 ti64 ti65 ti66 ti67 ti68 ti69 ti70 ti72 ti73 ti74 ti75 ti76 ti77 ti78 ti79 ti80 ti81 ti82 ti83 ti84 ti85 ti86 ti87 ti89 ti91 ti92 ti93 ti94 ti95 ti96 ti97 ti98 ti99 ti100 ti101 ti103 ti105 ti106 ti107 ti108 ti109 ti110 ti111 ti112 ti113 ti114 ti115 ti117 ti118 ti120 ti121 ti122 ti123 ti124 ti125 ti126 ti127 ti128 ti129 ti130 ti131 ti132 ti133 ti134 ti135 ti136 ti137 ti138 ti139 ti140 Row.D Node.D Part.D TItem.D Ref.D
attribute [local go_sem] V1_none V1_some V_nil V_move V_assign V_pick V_bin V_un V_extract V_makeFunc V_convert V_nilCheck V_fieldAddr V_field V_load V_store V_indexAddr V_index V_slice V_slice0 V_alloc V_box V_build V_buildSlice V_makeSlice V_len V_min V_max V_append V_copy V_call V_guard VGs_some VG_tt VG_ff VG_tf VG_ft VG_u gslot ok fail po so aNew dstOk freshU addLog_none' addLog_some' St.step putL evalA eget hget argE freshE freshO freshH AV.ids AV.idsL AV.ok1 AV.cells ids_box ids_arr liveBox liveArr isArr isObj isBoxB aPick isNilC aNilEq aBin aUn aExtract aMakeFunc aConvert aNilCheck aFieldAddr aField cut aLen aIndexAddr aMin aMax aIndex bnd isInt aSlice aSlice0 aLoad aAlloc aBox aStore splice aMake aMakeBox aCopy cellsOf cellsOfP updIds newIds zv_i64 zv_u8 zv_bool zv_nils zv_nilp cond_bool cond_int TI.isAgg TK.isSl TK.el okL avDps avDp avD List.map_cons List.map_nil List.append_nil List.nil_append List.cons_append List.length_cons List.length_nil List.take_succ_cons List.take_zero List.drop_succ_cons List.drop_zero List.take_nil List.drop_nil List.headD_cons List.getD_cons_zero List.getD_cons_succ List.mem_cons List.not_mem_nil List.getElem?_cons_zero List.getElem?_cons_succ List.toList_toArray Option.getD_some Option.getD_none Option.bind_some Option.bind_none Option.map_some Option.map_none Option.getD Option.toList Nat.zero_add Nat.add_zero Nat.zero_le Nat.le_refl if_true if_false ite_self true_and and_true false_and and_false true_or or_true false_or or_false not_true_eq_false not_false_eq_true ne_eq cond_true cond_false Bool.true_eq_false Bool.false_eq_true forall_const decide_true decide_false implies_true true_implies and_self or_self Nat.succ_ne_zero Int.toNat_natCast Int.natCast_nonneg List.length_map decide_eq_true_eq AV.views AV.view AV.viewPs AV.viewP arrsOnly newNames List.length_append List.append_assoc Bool.not_true Bool.not_false AV.ok2 aBuild fillR fillP aBuildSlice dense elP aAppend esOf esOfP List.forall_mem_cons forall_eq_or_imp forall_eq zD zDp map_take' map_drop' iD uD bD tD lD iD_len uD_len bD_len tD_len lD_len LB Int.cast_ofNat_Int Int.natCast_zero Int.natCast_one head_len all_len List.head?_cons List.head?_nil Bool.not_not eq_self List.take_length zv_str aConv byteOf isByte map_bcell bytes_all str_map cellsEq cellsP AV.kd Bool.and_true Bool.true_and Bool.and_false Bool.false_and spl_map spl_len mkbox_i mkbox_b flat_iD dataL_iA dataL_bA zv_u64 flat_iD' flat_len dataL_tA dataL_ttA spl_mt spl_mtt mkbox_s splice_one take_cons_drop cons_rep cons_tail hd_set hd_set0 List.length_replicate iA bA sA_def List.set_set List.length_set idsL_iA idsL_bA idsL_sA idsL_setE idsL_rep List.append_eq Nat.mul_one ids_pre idsL_room appBox_full appBox_room pre_iA one_iD List.flatten_cons List.flatten_nil ti1 ti2 ti3 ti4 ti5 ti6 ti7 ti8 ti9 ti10 ti11 ti12 ti13 ti14 ti15 ti16 ti17 ti18 ti19 ti21 ti22 ti23 ti24 ti25 ti26 ti27 ti28 ti29 ti30 ti32 ti33 ti34 ti35 ti36 ti37 ti38 ti40 ti41 ti42 ti43 ti44 ti45 ti46 ti47 ti48 ti49 ti50 ti51 ti52 ti54 ti55 ti56 ti57 ti58 ti59 ti61 ti62 ti63 ti64 ti65 ti66 ti67 ti68 ti69 ti70 ti72 ti73 ti74 ti75 ti76 ti77 ti78 ti79 ti80 ti81 ti82 ti83 ti84 ti85 ti86 ti87 ti89 ti91 ti92 ti93 ti94 ti95 ti96 ti97 ti98 ti99 ti100 ti101 ti103 ti105 ti106 ti107 ti108 ti109 ti110 ti111 ti112 ti113 ti114 ti115 ti117 ti118 ti120 ti121 ti122 ti123 ti124 ti125 ti126 ti127 ti128 ti129 ti130 ti131 ti132 ti133 ti134 ti135 ti136 ti137 ti138 ti139 ti140 Row.D Node.D Part.D TItem.D Ref.D Row.D_len Node.D_len Part.D_len TItem.D_len Ref.D_len zs_ zs_48_49_50_51_52_53_54_55_56_57_48_49_50_51_52_53_54_55_56_57_48_49_50_51_52_53_54_55_56_57_48_49_50_51_52_53_54_55_56_57_120 zs_113 zs_116_97_98_9 eqf74_00
noncomputable def law10_AssemblyFull_l0 (v28 : Int) (v29 : List Row) : Option ((Int × List Row) ⊕ (Bool)) :=
  bif decide (v28 > 0) then (chk ((v29.length + 1) * 40 ≤ 140737488355328) (contO ((IntKind.i64.wrap (v28 - 1), (v29 ++ ([(Row.mk [1, 1] 1 1)]))) : Int × List Row))) else (exitO ((assembly_Solve [2, 1] v29).bind fun v30 => (assembly_Repeat [2, 1] v29 true [1] 1 []).bind fun v31 => bif decide ((v29.length : Int) > 60) then (bif decide (v30.1 = 1) then (bif decide (v31.1 = 1) then ((law10_awake).bind fun v34 => some (v34 : Bool)) else (some (false : Bool))) else (some (false : Bool))) else (bif decide (¬ v30.1 = 0) then (some (false : Bool)) else (bif !v30.2.1 then (some (false : Bool)) else (bif decide (¬ v30.2.2.2.1 = 1) then (some (false : Bool)) else ((ref06_Ints v30.2.2.1 [1]).bind fun v36 => bif !v36 then (some (false : Bool)) else (bif decide ((v29.length : Int) = 60) then (bif decide (v31.1 = 3) then ((law10_awake).bind fun v39 => some (v39 : Bool)) else (some (false : Bool))) else (bif decide (v31.1 = 0) then (bif decide ((v31.2.2.length : Int) = (IntKind.i64.wrap ((v29.length : Int) + 1))) then ((law10_awake).bind fun v40 => some (v40 : Bool)) else (some (false : Bool))) else (some (false : Bool))))))))))
noncomputable def law10_AssemblyFull (v1 : Int) : Option (Bool) :=
  (mk_Cut v1 6).bind fun v25 => iter (fun g : Int × List Row => law10_AssemblyFull_l0 g.1 g.2) (IntKind.i64.wrap (57 + v25), [])
theorem law10_AssemblyFull_ok (v1 : Int) (r : Bool) (hx : law10_AssemblyFull v1 = some r) :
    ACalls Try.prog 7 [.d (.int .i64 v1)] [] (.d (.bool r)) [] := by
  refine ACalls.of_sem (n := 93) 0 [2] (fn := Try.f7) Try.func7 rfl rfl (.one rfl) rfl (by simp) (by intro i; simp only [hget]; (repeat' split) <;> simp <;> omega) ?_
  unfold law10_AssemblyFull at hx
  refine Walk.seq (Walk.region' rfl fun K hK => ?_)
  simp only [go_sem, seval]
  refine hK _ ?_
  clear hK K
  refine Walk.seq (Walk.region' rfl fun K hK => ?_)
  simp only [go_sem, seval]
  refine hK _ ?_
  clear hK K
  refine Walk.weaken ⟨[(0, .d (.int .i64 v1)), (3, .box 3 0)], [(3, some (.box [.arr 9 0 2, .nils])), (9, some (.arr 3 1 (List.map iD [2, 1])))]⟩ (by simp <;> omega) (by simp <;> omega) ?_
  refine Walk.seq (Walk.seq (Walk.region' rfl fun K hK => ?_))
  obtain ⟨v25, h103, hx⟩ := bind_elim hx
  simp only [go_sem, seval]
  refine VCl.pure rfl (by simp only [go_sem, seval]; try simp) (mk_Cut_ok v1 6 _ h103) (by simp only [go_sem, seval]; try simp) (by simp only [go_sem, seval]; try simp) (by simp only [go_sem, seval]; try simp) (by simp only [go_sem, seval]; try simp) (by simp only [go_sem, seval]; try simp) (by simp only [go_sem, seval]; try simp) ?_
  simp only [go_sem, seval]
  refine hK _ ?_
  clear hK K
  refine Walk.block (Walk.loop ?_)
  refine Walk.weaken ⟨[(3, .box 3 0), (4, .d (.int .i64 (IntKind.i64.wrap (57 + v25))))], [(3, some (.box [.arr 9 0 2, .nils])), (9, some (.arr 3 1 (List.map iD [2, 1])))]⟩ (by simp <;> omega) (by simp <;> omega) ?_
  refine Walk.up 1009 47 3 [(3, .box 3 0), (4, .d (.int .i64 (IntKind.i64.wrap (57 + v25))))] [(3, some (.box [.arr 9 0 2, .arr 1009 0 0])), (9, some (.arr 3 1 (List.map iD [2, 1])))] (by simp) (by simp) (by omega) (by simp) (by simp) (by simp) ?_
  refine Walk.weaken ⟨[(3, .box 3 0), (4, .d (.int .i64 ((IntKind.i64.wrap (57 + v25)))))], [(3, some (.box [.arr 9 0 2, .arr 1009 0 0])), (9, some (.arr 3 1 (List.map iD [2, 1]))), (1009, some (.arr 47 3 (List.map Row.D [])))]⟩ (by simp <;> omega) (by simp <;> omega) ?_
  refine Walk.iter (σ := Int × List Row) (fun g => ⟨[(3, .box 3 0), (4, .d (.int .i64 g.1))], [(3, some (.box [.arr 9 0 2, .arr 1009 0 g.2.length])), (9, some (.arr 3 1 (List.map iD [2, 1]))), (1009, some (.arr 47 3 (List.map Row.D g.2)))]⟩) (fun g : Int × List Row => law10_AssemblyFull_l0 g.1 g.2) _ (fun g y173 hx ih126 hr127 => ?_) (IntKind.i64.wrap (57 + v25), []) hx
  obtain ⟨v28, v29⟩ := g
  unfold law10_AssemblyFull_l0 at hx
  try dsimp only at hx ⊢
  refine Walk.seq (Walk.seq (Walk.region' rfl fun K hK => ?_))
  simp only [go_sem, seval]
  refine hK _ ?_
  clear hK K
  refine Walk.condO rfl hx (fun c130 hx => ?_) (fun c130 hx => ?_)
  · refine Walk.skip (Walk.seq (Walk.block (Walk.region' rfl fun K hK => ?_)))
    obtain ⟨k131, hx⟩ := chk_elim hx
    simp only [go_sem, seval, c130, k131]
    repeat refine And.intro (by first | omega | (simp; done) | (simp; omega)) ?_
    refine hK _ ?_
    clear hK K
    refine Walk.weaken ⟨[(3, .box 3 0), (4, .d (.int .i64 v28))], [(3, some (.box [.arr 9 0 2, .arr 1009 0 (((v29 ++ ([(Row.mk [1, 1] 1 1)]))).length)])), (9, some (.arr 3 1 (List.map iD [2, 1]))), (1009, some (.arr 47 3 (List.map Row.D ((v29 ++ ([(Row.mk [1, 1] 1 1)]))))))]⟩ (by simp [c130, k131] <;> omega) (by simp [c130, k131] <;> omega) ?_
    refine Walk.inBlock (Walk.region' rfl fun K hK => ?_)
    simp only [go_sem, seval, c130, k131]
    refine hK _ ?_
    clear hK K
    exact Walk.weaken _ (by simp [c130, k131] <;> omega) (by simp [c130, k131] <;> omega) (ih126 _ (cont_elim hx))
  refine Walk.exit rfl ?_
  obtain ⟨z132, e133, hx⟩ := exit_elim hx
  rw [hr127 z132 e133] at hx
  refine Walk.seq ?_
  refine Walk.weaken ⟨[(3, .box 3 0)], [(3, some (.box [.arr 9 0 2, .arr 1009 0 v29.length])), (9, some (.arr 3 1 (List.map iD [2, 1]))), (1009, some (.arr 47 3 (List.map Row.D v29)))]⟩ (by simp [c130] <;> omega) (by simp [c130] <;> omega) ?_
  refine Walk.freeze 9 3 1 (List.map iD [2, 1]) [(3, .box 3 0)] [(3, some (.box [.d (.sl (List.map iD [2, 1])), .arr 1009 0 v29.length])), (1009, some (.arr 47 3 (List.map Row.D v29)))] (by simp) (by simp) (by simp) ?_
  refine Walk.weaken ⟨[(3, .box 3 0)], [(3, some (.box [.d (.sl (List.map iD [2, 1])), .arr 1009 0 v29.length])), (1009, some (.arr 47 3 (List.map Row.D v29)))]⟩ (by simp [c130] <;> omega) (by simp [c130] <;> omega) ?_
  refine Walk.freeze 1009 47 3 (List.map Row.D v29) [(3, .box 3 0)] [(3, some (.box [.d (.sl (List.map iD [2, 1])), .d (.sl (List.map Row.D v29))]))] (by simp) (by simp) (by simp) ?_
  refine Walk.region' rfl fun K hK => ?_
  obtain ⟨v30, h134, hx⟩ := bind_elim hx
  have w135 := ((assembly_Solve_ok [2, 1] v29 _ h134).swap 2001 1010)
  simp only [renE, renL, AV.ren, AV.rens, AObj.ren, swp, Option.map_some, reduceIte, Nat.reduceEqDiff] at w135
  simp only [go_sem, seval, c130]
  refine VCl.pure rfl (by simp only [go_sem, seval, c130]; try simp) (w135) (by simp only [go_sem, seval, c130]; try simp) (by simp only [go_sem, seval, c130]; try simp) (by simp only [go_sem, seval, c130]; try simp) (by simp only [go_sem, seval, c130]; try simp) (by simp only [go_sem, seval, c130]; try simp) (by simp only [go_sem, seval, c130]; try simp) ?_
  simp only [go_sem, seval, c130]
  refine hK _ ?_
  clear hK K
  refine Walk.weaken ⟨[(3, .box 3 0), (5, .box 5 0), (6, .d (.int .i64 v30.1))], [(3, some (.box [.d (.sl (List.map iD [2, 1])), .d (.sl (List.map Row.D v29))])), (5, some (.box [.d (.bool v30.2.1), .d (.sl (List.map iD v30.2.2.1)), .d (.int .i64 v30.2.2.2.1), .arr 1010 0 v30.2.2.2.2.length])), (1010, some (.arr 86 7 (List.map Node.D v30.2.2.2.2)))]⟩ (by simp [c130] <;> omega) (by simp [c130] <;> omega) ?_
  refine Walk.seq (Walk.region' rfl fun K hK => ?_)
  obtain ⟨v31, h136, hx⟩ := bind_elim hx
  have w137 := (((assembly_Repeat_ok [2, 1] v29 true [1] 1 [] _ h136).swap 2001 1011).swap 2002 1012)
  simp only [renE, renL, AV.ren, AV.rens, AObj.ren, swp, Option.map_some, reduceIte, Nat.reduceEqDiff] at w137
  simp only [go_sem, seval, c130]
  refine VCl.sub [] [32] rfl (by simp only [go_sem, seval, AV.viewXs, AV.viewX, avD, c130]; try simp) (w137) (by simp [c130]) (by simp [c130]) (by simp [c130]) (by simp [c130]) (by simp [c130]) (by simp [c130]) (by simp [c130]) (by simp [c130]) (by simp [c130]) (by simp [c130]) ?_
  simp only [go_sem, seval, c130]
  refine hK _ ?_
  clear hK K
  refine Walk.weaken ⟨[(3, .box 3 0), (5, .box 5 0), (6, .d (.int .i64 v30.1)), (7, .box 7 0), (8, .d (.int .i64 v31.1))], [(3, some (.box [.d (.sl (List.map iD [2, 1])), .d (.sl (List.map Row.D v29))])), (5, some (.box [.d (.bool v30.2.1), .d (.sl (List.map iD v30.2.2.1)), .d (.int .i64 v30.2.2.2.1), .arr 1010 0 v30.2.2.2.2.length])), (7, some (.box [.arr 1011 0 v31.2.1.length, .arr 1012 0 v31.2.2.length])), (1010, some (.arr 86 7 (List.map Node.D v30.2.2.2.2))), (1011, some (.arr 3 1 (List.map iD v31.2.1))), (1012, some (.arr 47 3 (List.map Row.D v31.2.2)))]⟩ (by simp [c130] <;> omega) (by simp [c130] <;> omega) ?_
  refine Walk.seq (Walk.seq (Walk.region' rfl fun K hK => ?_))
  simp only [go_sem, seval, c130]
  refine hK _ ?_
  clear hK K
  refine Walk.condO rfl hx (fun c146 hx => ?_) (fun c146 hx => ?_)
  · refine Walk.seq (Walk.region' rfl fun K hK => ?_)
    simp only [go_sem, seval, c130, c146]
    refine VGdO hx (fun g147 hx => ?_) (fun g147 hx => ?_)
    · simp only [go_sem, seval, c130, c146, g147]
      refine VGdO hx (fun g148 hx => ?_) (fun g148 hx => ?_)
      · obtain ⟨v34, h149, hx⟩ := bind_elim hx
        simp only [go_sem, seval, c130, c146, g147, g148]
        refine VCl.pure rfl (by simp only [go_sem, seval, c130, c146, g147, g148]; try simp) (law10_awake_ok _ h149) (by simp only [go_sem, seval, c130, c146, g147, g148]; try simp) (by simp only [go_sem, seval, c130, c146, g147, g148]; try simp) (by simp only [go_sem, seval, c130, c146, g147, g148]; try simp) (by simp only [go_sem, seval, c130, c146, g147, g148]; try simp) (by simp only [go_sem, seval, c130, c146, g147, g148]; try simp) (by simp only [go_sem, seval, c130, c146, g147, g148]; try simp) ?_
        simp only [go_sem, seval, c130, c146, g147, g148]
        refine hK _ ?_
        clear hK K
        obtain rfl := Option.some.inj hx
        exact Walk.ret ⟨by simp [c130, c146, g147, g148], by simp [c130, c146, g147, g148]⟩
      simp only [go_sem, seval, c130, c146, g147, g148]
      refine hK _ ?_
      clear hK K
      obtain rfl := Option.some.inj hx
      exact Walk.ret ⟨by simp [c130, c146, g147, g148], by simp [c130, c146, g147, g148]⟩
    simp only [go_sem, seval, c130, c146, g147]
    refine hK _ ?_
    clear hK K
    obtain rfl := Option.some.inj hx
    exact Walk.ret ⟨by simp [c130, c146, g147], by simp [c130, c146, g147]⟩
  refine Walk.skip (Walk.seq (Walk.seq (Walk.region' rfl fun K hK => ?_)))
  simp only [go_sem, seval, c130, c146]
  refine VGdO hx (fun g155 hx => ?_) (fun g155 hx => ?_)
  · simp only [go_sem, seval, c130, c146, g155]
    refine hK _ ?_
    clear hK K
    refine Walk.condT rfl (Walk.seq (Walk.region' rfl fun K hK => ?_))
    simp only [go_sem, seval, c130, c146, g155]
    refine hK _ ?_
    clear hK K
    obtain rfl := Option.some.inj hx
    exact Walk.ret ⟨by simp [c130, c146, g155], by simp [c130, c146, g155]⟩
  simp only [go_sem, seval, c130, c146, g155]
  refine VGdO hx (fun g156 hx => ?_) (fun g156 hx => ?_)
  · simp only [go_sem, seval, c130, c146, g155, g156]
    refine hK _ ?_
    clear hK K
    refine Walk.condT rfl (Walk.seq (Walk.region' rfl fun K hK => ?_))
    simp only [go_sem, seval, c130, c146, g155, g156]
    refine hK _ ?_
    clear hK K
    obtain rfl := Option.some.inj hx
    exact Walk.ret ⟨by simp [c130, c146, g155, g156], by simp [c130, c146, g155, g156]⟩
  simp only [go_sem, seval, c130, c146, g155, g156]
  refine VGdO hx (fun g157 hx => ?_) (fun g157 hx => ?_)
  · simp only [go_sem, seval, c130, c146, g155, g156, g157]
    refine hK _ ?_
    clear hK K
    refine Walk.condT rfl (Walk.seq (Walk.region' rfl fun K hK => ?_))
    simp only [go_sem, seval, c130, c146, g155, g156, g157]
    refine hK _ ?_
    clear hK K
    obtain rfl := Option.some.inj hx
    exact Walk.ret ⟨by simp [c130, c146, g155, g156, g157], by simp [c130, c146, g155, g156, g157]⟩
  obtain ⟨v36, h158, hx⟩ := bind_elim hx
  simp only [go_sem, seval, c130, c146, g155, g156, g157]
  refine VCl.lent rfl (by simp only [go_sem, seval, c130, c146, g155, g156, g157]; try simp) (ref06_Ints_ok v30.2.2.1 [1] _ h158) (by simp [c130, c146, g155, g156, g157]) (by simp [c130, c146, g155, g156, g157]) (by simp [c130, c146, g155, g156, g157]) (by simp [c130, c146, g155, g156, g157]) (by simp [c130, c146, g155, g156, g157]) (by simp [c130, c146, g155, g156, g157]) (by simp [c130, c146, g155, g156, g157]) ?_
  simp only [go_sem, seval, c130, c146, g155, g156, g157]
  refine hK _ ?_
  clear hK K
  refine Walk.weaken ⟨[(3, .box 3 0), (7, .box 7 0), (8, .d (.int .i64 v31.1)), (68, .d (.bool (!v36)))], [(3, some (.box [.d (.sl (List.map iD [2, 1])), .d (.sl (List.map Row.D v29))])), (7, some (.box [.arr 1011 0 v31.2.1.length, .arr 1012 0 v31.2.2.length])), (1011, some (.arr 3 1 (List.map iD v31.2.1))), (1012, some (.arr 47 3 (List.map Row.D v31.2.2)))]⟩ (by simp [c130, c146, g155, g156, g157] <;> omega) (by simp [c130, c146, g155, g156, g157] <;> omega) ?_
  refine Walk.condO rfl hx (fun c160 hx => ?_) (fun c160 hx => ?_)
  · refine Walk.seq (Walk.region' rfl fun K hK => ?_)
    simp only [go_sem, seval, c130, c146, g155, g156, g157, c160]
    refine hK _ ?_
    clear hK K
    obtain rfl := Option.some.inj hx
    exact Walk.ret ⟨by simp [c130, c146, g155, g156, g157, c160], by simp [c130, c146, g155, g156, g157, c160]⟩
  refine Walk.skip (Walk.seq (Walk.seq (Walk.region' rfl fun K hK => ?_)))
  simp only [go_sem, seval, c130, c146, g155, g156, g157, c160]
  refine hK _ ?_
  clear hK K
  refine Walk.condO rfl hx (fun c167 hx => ?_) (fun c167 hx => ?_)
  · refine Walk.seq (Walk.region' rfl fun K hK => ?_)
    simp only [go_sem, seval, c130, c146, g155, g156, g157, c160, c167]
    refine VGdO hx (fun g168 hx => ?_) (fun g168 hx => ?_)
    · obtain ⟨v39, h169, hx⟩ := bind_elim hx
      simp only [go_sem, seval, c130, c146, g155, g156, g157, c160, c167, g168]
      refine VCl.pure rfl (by simp only [go_sem, seval, c130, c146, g155, g156, g157, c160, c167, g168]; try simp) (law10_awake_ok _ h169) (by simp only [go_sem, seval, c130, c146, g155, g156, g157, c160, c167, g168]; try simp) (by simp only [go_sem, seval, c130, c146, g155, g156, g157, c160, c167, g168]; try simp) (by simp only [go_sem, seval, c130, c146, g155, g156, g157, c160, c167, g168]; try simp) (by simp only [go_sem, seval, c130, c146, g155, g156, g157, c160, c167, g168]; try simp) (by simp only [go_sem, seval, c130, c146, g155, g156, g157, c160, c167, g168]; try simp) (by simp only [go_sem, seval, c130, c146, g155, g156, g157, c160, c167, g168]; try simp) ?_
      simp only [go_sem, seval, c130, c146, g155, g156, g157, c160, c167, g168]
      refine hK _ ?_
      clear hK K
      obtain rfl := Option.some.inj hx
      exact Walk.ret ⟨by simp [c130, c146, g155, g156, g157, c160, c167, g168], by simp [c130, c146, g155, g156, g157, c160, c167, g168]⟩
    simp only [go_sem, seval, c130, c146, g155, g156, g157, c160, c167, g168]
    refine hK _ ?_
    clear hK K
    obtain rfl := Option.some.inj hx
    exact Walk.ret ⟨by simp [c130, c146, g155, g156, g157, c160, c167, g168], by simp [c130, c146, g155, g156, g157, c160, c167, g168]⟩
  refine Walk.skip (Walk.seq (Walk.region' rfl fun K hK => ?_))
  simp only [go_sem, seval, c130, c146, g155, g156, g157, c160, c167]
  refine VGdO hx (fun g170 hx => ?_) (fun g170 hx => ?_)
  · simp only [go_sem, seval, c130, c146, g155, g156, g157, c160, c167, g170]
    refine VGdO hx (fun g171 hx => ?_) (fun g171 hx => ?_)
    · obtain ⟨v40, h172, hx⟩ := bind_elim hx
      simp only [go_sem, seval, c130, c146, g155, g156, g157, c160, c167, g170, g171]
      refine VCl.pure rfl (by simp only [go_sem, seval, c130, c146, g155, g156, g157, c160, c167, g170, g171]; try simp) (law10_awake_ok _ h172) (by simp only [go_sem, seval, c130, c146, g155, g156, g157, c160, c167, g170, g171]; try simp) (by simp only [go_sem, seval, c130, c146, g155, g156, g157, c160, c167, g170, g171]; try simp) (by simp only [go_sem, seval, c130, c146, g155, g156, g157, c160, c167, g170, g171]; try simp) (by simp only [go_sem, seval, c130, c146, g155, g156, g157, c160, c167, g170, g171]; try simp) (by simp only [go_sem, seval, c130, c146, g155, g156, g157, c160, c167, g170, g171]; try simp) (by simp only [go_sem, seval, c130, c146, g155, g156, g157, c160, c167, g170, g171]; try simp) ?_
      simp only [go_sem, seval, c130, c146, g155, g156, g157, c160, c167, g170, g171]
      refine hK _ ?_
      clear hK K
      obtain rfl := Option.some.inj hx
      exact Walk.ret ⟨by simp [c130, c146, g155, g156, g157, c160, c167, g170, g171], by simp [c130, c146, g155, g156, g157, c160, c167, g170, g171]⟩
    simp only [go_sem, seval, c130, c146, g155, g156, g157, c160, c167, g170, g171]
    refine hK _ ?_
    clear hK K
    obtain rfl := Option.some.inj hx
    exact Walk.ret ⟨by simp [c130, c146, g155, g156, g157, c160, c167, g170, g171], by simp [c130, c146, g155, g156, g157, c160, c167, g170, g171]⟩
  simp only [go_sem, seval, c130, c146, g155, g156, g157, c160, c167, g170]
  refine hK _ ?_
  clear hK K
  obtain rfl := Option.some.inj hx
  exact Walk.ret ⟨by simp [c130, c146, g155, g156, g157, c160, c167, g170], by simp [c130, c146, g155, g156, g157, c160, c167, g170]⟩
end Go.AX

