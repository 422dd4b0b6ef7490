import Derived.Test.YtmggphnhfegffaaE10
set_option linter.unusedVariables false
set_option linter.unusedSimpArgs false
set_option maxRecDepth 20000
set_option maxHeartbeats 4000000
namespace Go.AX
open Go.Proofs
attribute [local simp] take_map_len subE subH eget hget upE upV upH upO_refl upO_box upVs freshE freshH freshO AV.ids AV.idsL ids_box ids_arr frE frV_refl frV_arr frH frO_refl frO_box frVs newOk evalA AV.viewXs AV.viewX AV.viewXP AV.viewXPs AV.viewPs AV.viewP AV.flat AV.flatL D.flat arrsOnly flatObjs newNames subOf closedIn allSome dstOk newOrOld avD avDp zv_i64 zv_u8 zv_bool zv_nils zv_nilp zv_str retAV aLoad cut TI.isAgg nlE nlH nlO_refl nlO_box nlVs nlV_refl nlV_nil iD uD bD tD lD List.map_set ti2 ti3 ti4 ti5 ti6 ti7 ti8 ti9 ti10 ti11 ti12 ti13 ti14 ti15 ti16 ti17 ti18 ti19 ti21 ti22 ti23 ti25 ti26 ti27 ti31 ti32 ti41 ti51 ti52 ti53 ti54 ti56 ti58 ti60 ti61 ti62 ti67 ti68 ti71 ti72 ti79 ti80 ti81 ti82 ti83 ti84 ti85 ti89 ti93 ti94 ti95 ti110 ti124 ti125 ti126 ti127 ti128 ti129 ti130 ti131 ti133 ti134 ti135 ti136 ti137 Row.D TRange.D Ref.D Form.D Part.D TItem.D
attribute [local go_sem] V1_none V1_some V_nil V_move V_assign V_pick V_bin V_un V_extract V_makeFunc V_convert V_nilCheck V_fieldAddr V_field V_load V_store V_indexAddr V_index V_slice V_slice0 V_alloc V_box V_build V_buildSlice V_makeSlice V_len V_min V_max V_append V_call V_guard VGs_some VG_tt VG_ff VG_tf VG_ft VG_u gslot ok fail po so aNew dstOk freshU addLog_none' addLog_some' St.step putL evalA eget hget argE freshE freshO freshH AV.ids AV.idsL AV.ok1 AV.cells ids_box ids_arr liveBox liveArr isArr aPick aBin aUn aExtract aMakeFunc aConvert aNilCheck aFieldAddr aField cut aLen aIndexAddr aMin aMax aIndex bnd isInt aSlice aSlice0 aLoad aAlloc aBox aStore splice aMake updIds newIds zv_i64 zv_u8 zv_bool zv_nils zv_nilp cond_bool cond_int TI.isAgg TK.isSl TK.el okL avDps avDp avD List.map_cons List.map_nil List.append_nil List.nil_append List.cons_append List.length_cons List.length_nil List.take_succ_cons List.take_zero List.drop_succ_cons List.drop_zero List.take_nil List.drop_nil List.headD_cons List.getD_cons_zero List.getD_cons_succ List.mem_cons List.not_mem_nil List.getElem?_cons_zero List.getElem?_cons_succ List.toList_toArray Option.getD_some Option.getD_none Option.bind_some Option.bind_none Option.map_some Option.map_none Option.getD Option.toList Nat.zero_add Nat.add_zero Nat.zero_le Nat.le_refl if_true if_false ite_self true_and and_true false_and and_false true_or or_true false_or or_false not_true_eq_false not_false_eq_true ne_eq cond_true cond_false Bool.true_eq_false Bool.false_eq_true forall_const decide_true decide_false implies_true true_implies and_self or_self Nat.succ_ne_zero Int.toNat_natCast Int.natCast_nonneg List.length_map decide_eq_true_eq AV.views AV.view AV.viewPs AV.viewP arrsOnly newNames List.length_append List.append_assoc Bool.not_true Bool.not_false AV.ok2 aBuild fillR fillP aBuildSlice dense elP aAppend esOf esOfP List.forall_mem_cons forall_eq_or_imp forall_eq zD zDp map_take' map_drop' iD uD bD tD lD iD_len uD_len bD_len tD_len lD_len LB Int.cast_ofNat_Int Int.natCast_zero Int.natCast_one head_len all_len List.head?_cons List.head?_nil Bool.not_not eq_self List.take_length zv_str aConv byteOf isByte map_bcell bytes_all str_map cellsEq cellsP AV.kd Bool.and_true Bool.true_and Bool.and_false Bool.false_and ti2 ti3 ti4 ti5 ti6 ti7 ti8 ti9 ti10 ti11 ti12 ti13 ti14 ti15 ti16 ti17 ti18 ti19 ti21 ti22 ti23 ti25 ti26 ti27 ti31 ti32 ti41 ti51 ti52 ti53 ti54 ti56 ti58 ti60 ti61 ti62 ti67 ti68 ti71 ti72 ti79 ti80 ti81 ti82 ti83 ti84 ti85 ti89 ti93 ti94 ti95 ti110 ti124 ti125 ti126 ti127 ti128 ti129 ti130 ti131 ti133 ti134 ti135 ti136 ti137 Row.D TRange.D Ref.D Form.D Part.D TItem.D Row.D_len TRange.D_len Ref.D_len Form.D_len Part.D_len TItem.D_len zs_ zs_48_49_50_51_52_53_54_55_56_57_48_49_50_51_52_53_54_55_56_57_48_49_50_51_52_53_54_55_56_57_48_49_50_51_52_53_54_55_56_57_120 zs_113 zs_116_97_98_9 eqf85_00
noncomputable def law08_marks_l1 (v68 : TItem) (v3 : Int) (v55 : Int) (v71 : Bool) (v72 : Int) (v73 : Int) : Option ((Bool × Int × Int) ⊕ ((Bool × Int × Int) ⊕ (Int))) :=
  bif decide (v73 < (v68.Parts.length : Int)) then (bif v71 then ((rd v68.Parts v73).bind fun v76 => bif decide (v76.Topic = v3) then (contO ((true, IntKind.i64.wrap (v72 + v76.Max), IntKind.i64.wrap (v73 + 1)) : Bool × Int × Int)) else (contO ((true, v72, IntKind.i64.wrap (v73 + 1)) : Bool × Int × Int))) else ((rd v68.Parts v73).bind fun v77 => bif decide (v77.Objective = v3) then (contO ((false, IntKind.i64.wrap (v72 + v77.Max), IntKind.i64.wrap (v73 + 1)) : Bool × Int × Int)) else (contO ((false, v72, IntKind.i64.wrap (v73 + 1)) : Bool × Int × Int)))) else (exitO (contO ((v71, v72, IntKind.i64.wrap (v55 + 1)) : Bool × Int × Int)))
noncomputable def law08_marks_l0 (v2 : List Int) (v1 : List TItem) (v3 : Int) (v53 : Bool) (v54 : Int) (v55 : Int) : Option ((Bool × Int × Int) ⊕ (Int)) :=
  bif decide (v55 < (v2.length : Int)) then ((rd v2 v55).bind fun v67 => (rd v1 v67).bind fun v68 => iter (fun g : Bool × Int × Int => law08_marks_l1 v68 v3 v55 g.1 g.2.1 g.2.2) (v53, v54, 0)) else (exitO (some (v54 : Int)))
noncomputable def law08_marks (v1 : List TItem) (v2 : List Int) (v3 : Int) (v4 : Bool) : Option (Int) :=
  iter (fun g : Bool × Int × Int => law08_marks_l0 v2 v1 v3 g.1 g.2.1 g.2.2) (v4, 0, 0)
theorem law08_marks_ok (v1 : List TItem) (v2 : List Int) (v3 : Int) (v4 : Bool) (r : Int) (hx : law08_marks v1 v2 v3 v4 = some r) :
    ACalls Try.prog 87 [.d (.sl (List.map TItem.D v1)), .d (.sl (List.map iD v2)), .d (.int .i64 v3), .d (.bool v4)] [] (.d (.int .i64 r)) [] := by
  refine ACalls.of_sem (n := 64) 0 [8] (fn := Try.f87) Try.func87 rfl rfl (.one rfl) rfl (by simp) (by intro i; simp only [hget]; (repeat' split) <;> simp <;> omega) ?_
  unfold law08_marks at hx
  refine Walk.seq (Walk.region' rfl fun K hK => ?_)
  simp only [go_sem, seval]
  refine hK _ ?_
  clear hK K
  refine Walk.seq (Walk.region' rfl fun K hK => ?_)
  simp only [go_sem, seval]
  refine hK _ ?_
  clear hK K
  refine Walk.seq (Walk.seq (Walk.region' rfl fun K hK => ?_))
  simp only [go_sem, seval]
  refine hK _ ?_
  clear hK K
  refine Walk.block (Walk.loop ?_)
  refine Walk.weaken ⟨[(0, .d (.sl (List.map TItem.D v1))), (1, .d (.sl (List.map iD v2))), (2, .d (.int .i64 v3)), (3, .d (.bool v4)), (9, .d (.int .i64 0)), (10, .d (.int .i64 0))], []⟩ (by simp <;> omega) (by simp <;> omega) ?_
  refine Walk.iter (σ := Bool × Int × Int) (fun g => ⟨[(0, .d (.sl (List.map TItem.D v1))), (1, .d (.sl (List.map iD v2))), (2, .d (.int .i64 v3)), (3, .d (.bool g.1)), (9, .d (.int .i64 g.2.1)), (10, .d (.int .i64 g.2.2))], []⟩) (fun g : Bool × Int × Int => law08_marks_l0 v2 v1 v3 g.1 g.2.1 g.2.2) _ (fun g y352 hx ih290 hr291 => ?_) (v4, 0, 0) hx
  obtain ⟨v53, v54, v55⟩ := g
  unfold law08_marks_l0 at hx
  try dsimp only at hx ⊢
  refine Walk.seq (Walk.seq (Walk.region' rfl fun K hK => ?_))
  simp only [go_sem, seval]
  refine hK _ ?_
  clear hK K
  refine Walk.condO rfl hx (fun c294 hx => ?_) (fun c294 hx => ?_)
  · refine Walk.skip (Walk.seq (Walk.block (Walk.seq (Walk.region' rfl fun K hK => ?_))))
    obtain ⟨v67, r295, a296, b297, c298, hx⟩ := rd_elim hx
    obtain ⟨v68, r299, a300, b301, c302, hx⟩ := rd_elim hx
    simp only [go_sem, seval, c294, a296, b297, c298, a300, b301, c302]
    repeat refine And.intro (by first | omega | (simp; done) | (simp; omega)) ?_
    refine hK _ ?_
    clear hK K
    refine Walk.seq (Walk.region' rfl fun K hK => ?_)
    simp only [go_sem, seval, c294, a296, b297, c298, a300, b301, c302]
    refine hK _ ?_
    clear hK K
    refine Walk.block (Walk.loop ?_)
    refine Walk.weaken ⟨[(0, .d (.sl (List.map TItem.D v1))), (1, .d (.sl (List.map iD v2))), (2, .d (.int .i64 v3)), (3, .d (.bool v53)), (9, .d (.int .i64 v54)), (10, .d (.int .i64 v55)), (11, .d (.sl (List.map Part.D v68.Parts))), (12, .d (.int .i64 0))], []⟩ (by simp [c294, a296, b297, c298, a300, b301, c302] <;> omega) (by simp [c294, a296, b297, c298, a300, b301, c302] <;> omega) ?_
    refine Walk.iter (σ := Bool × Int × Int) (fun g => ⟨[(0, .d (.sl (List.map TItem.D v1))), (1, .d (.sl (List.map iD v2))), (2, .d (.int .i64 v3)), (3, .d (.bool g.1)), (9, .d (.int .i64 g.2.1)), (10, .d (.int .i64 v55)), (11, .d (.sl (List.map Part.D v68.Parts))), (12, .d (.int .i64 g.2.2))], []⟩) (fun g : Bool × Int × Int => law08_marks_l1 v68 v3 v55 g.1 g.2.1 g.2.2) _ (fun g y349 hx ih331 hr332 => ?_) (v53, v54, 0) hx
    obtain ⟨v71, v72, v73⟩ := g
    unfold law08_marks_l1 at hx
    try dsimp only at hx ⊢
    refine Walk.seq (Walk.seq (Walk.region' rfl fun K hK => ?_))
    simp only [go_sem, seval, c294, a296, b297, c298, a300, b301, c302]
    refine hK _ ?_
    clear hK K
    refine Walk.condO rfl hx (fun c335 hx => ?_) (fun c335 hx => ?_)
    · refine Walk.skip (Walk.seq (Walk.block (Walk.seq (Walk.region' rfl fun K hK => ?_))))
      simp only [go_sem, seval, c294, a296, b297, c298, a300, b301, c302, c335]
      refine VGdO hx (fun g336 hx => ?_) (fun g336 hx => ?_)
      · obtain ⟨v76, r337, a338, b339, c340, hx⟩ := rd_elim hx
        simp only [go_sem, seval, c294, a296, b297, c298, a300, b301, c302, c335, g336, a338, b339, c340]
        repeat refine And.intro (by first | omega | (simp; done) | (simp; omega)) ?_
        refine VGdO hx (fun g341 hx => ?_) (fun g341 hx => ?_)
        · simp only [go_sem, seval, c294, a296, b297, c298, a300, b301, c302, c335, g336, a338, b339, c340, g341]
          refine hK _ ?_
          clear hK K
          refine Walk.condT rfl (Walk.region' rfl fun K hK => ?_)
          simp only [go_sem, seval, c294, a296, b297, c298, a300, b301, c302, c335, g336, a338, b339, c340, g341]
          repeat refine And.intro (by first | omega | (simp; done) | (simp; omega)) ?_
          refine hK _ ?_
          clear hK K
          refine Walk.inBlock (Walk.region' rfl fun K hK => ?_)
          simp only [go_sem, seval, c294, a296, b297, c298, a300, b301, c302, c335, g336, a338, b339, c340, g341]
          refine hK _ ?_
          clear hK K
          exact Walk.weaken _ (by simp [c294, a296, b297, c298, a300, b301, c302, c335, g336, a338, b339, c340, g341] <;> omega) (by simp [c294, a296, b297, c298, a300, b301, c302, c335, g336, a338, b339, c340, g341] <;> omega) (ih331 _ (cont_elim hx))
        simp only [go_sem, seval, c294, a296, b297, c298, a300, b301, c302, c335, g336, a338, b339, c340, g341]
        refine hK _ ?_
        clear hK K
        refine Walk.condF rfl (Walk.skip (Walk.inBlock (Walk.region' rfl fun K hK => ?_)))
        simp only [go_sem, seval, c294, a296, b297, c298, a300, b301, c302, c335, g336, a338, b339, c340, g341]
        refine hK _ ?_
        clear hK K
        exact Walk.weaken _ (by simp [c294, a296, b297, c298, a300, b301, c302, c335, g336, a338, b339, c340, g341] <;> omega) (by simp [c294, a296, b297, c298, a300, b301, c302, c335, g336, a338, b339, c340, g341] <;> omega) (ih331 _ (cont_elim hx))
      obtain ⟨v77, r342, a343, b344, c345, hx⟩ := rd_elim hx
      simp only [go_sem, seval, c294, a296, b297, c298, a300, b301, c302, c335, g336, a343, b344, c345]
      repeat refine And.intro (by first | omega | (simp; done) | (simp; omega)) ?_
      refine hK _ ?_
      clear hK K
      refine Walk.condO rfl hx (fun c346 hx => ?_) (fun c346 hx => ?_)
      · refine Walk.region' rfl fun K hK => ?_
        simp only [go_sem, seval, c294, a296, b297, c298, a300, b301, c302, c335, g336, a343, b344, c345, c346]
        repeat refine And.intro (by first | omega | (simp; done) | (simp; omega)) ?_
        refine hK _ ?_
        clear hK K
        refine Walk.inBlock (Walk.region' rfl fun K hK => ?_)
        simp only [go_sem, seval, c294, a296, b297, c298, a300, b301, c302, c335, g336, a343, b344, c345, c346]
        refine hK _ ?_
        clear hK K
        exact Walk.weaken _ (by simp [c294, a296, b297, c298, a300, b301, c302, c335, g336, a343, b344, c345, c346] <;> omega) (by simp [c294, a296, b297, c298, a300, b301, c302, c335, g336, a343, b344, c345, c346] <;> omega) (ih331 _ (cont_elim hx))
      refine Walk.skip (Walk.inBlock (Walk.region' rfl fun K hK => ?_))
      simp only [go_sem, seval, c294, a296, b297, c298, a300, b301, c302, c335, g336, a343, b344, c345, c346]
      refine hK _ ?_
      clear hK K
      exact Walk.weaken _ (by simp [c294, a296, b297, c298, a300, b301, c302, c335, g336, a343, b344, c345, c346] <;> omega) (by simp [c294, a296, b297, c298, a300, b301, c302, c335, g336, a343, b344, c345, c346] <;> omega) (ih331 _ (cont_elim hx))
    refine Walk.exit rfl ?_
    obtain ⟨z347, e348, hx⟩ := exit_elim hx
    rw [hr332 z347 e348] at hx
    refine Walk.inBlock (Walk.region' rfl fun K hK => ?_)
    simp only [go_sem, seval, c294, a296, b297, c298, a300, b301, c302, c335]
    refine hK _ ?_
    clear hK K
    exact Walk.weaken _ (by simp [c294, a296, b297, c298, a300, b301, c302, c335] <;> omega) (by simp [c294, a296, b297, c298, a300, b301, c302, c335] <;> omega) (ih290 _ (cont_elim hx))
  refine Walk.exit rfl ?_
  obtain ⟨z350, e351, hx⟩ := exit_elim hx
  rw [hr291 z350 e351] at hx
  refine Walk.seq (Walk.region' rfl fun K hK => ?_)
  simp only [go_sem, seval, c294]
  refine hK _ ?_
  clear hK K
  obtain rfl := Option.some.inj hx
  exact Walk.ret ⟨by simp [c294], by simp [c294]⟩
noncomputable def law08_wanted_l1 (v965 : Int) (v11 : List Int) (v10 : List TItem) (v980 : TItem) (v964 : Int) (v981 : Int) (v985 : Int) : Option ((Int) ⊕ ((Int × Int) ⊕ (Bool))) :=
  bif decide (v985 < v965) then ((rd v11 v985).bind fun v989 => (rd v10 v989).bind fun v990 => bif decide (v980.ID = v990.ID) then (exitO (exitO (some (false : Bool)))) else ((item_Enemy v980.ID v980.Version v980.Stem v980.Parts v980.Enemies v990.ID v990.Version v990.Stem v990.Parts v990.Enemies).bind fun v991 => bif v991 then (exitO (exitO (some (false : Bool)))) else (contO (IntKind.i64.wrap (v985 + 1) : Int)))) else (exitO (contO ((IntKind.i64.wrap (v964 + v981), IntKind.i64.wrap (v965 + 1)) : Int × Int)))
noncomputable def law08_wanted_l5 (v11 : List Int) (v10 : List TItem) (v7 : List Int) (v1267 : Int) (v1326 : Int) (v1327 : Int) : Option ((Int × Int) ⊕ ((Int) ⊕ (Bool))) :=
  bif decide (v1327 < (v11.length : Int)) then ((rd v11 v1327).bind fun v1331 => (rd v10 v1331).bind fun v1332 => (rd v7 v1267).bind fun v1333 => bif decide (v1332.ID = v1333) then (contO ((IntKind.i64.wrap (v1326 + 1), IntKind.i64.wrap (v1327 + 1)) : Int × Int)) else (contO ((v1326, IntKind.i64.wrap (v1327 + 1)) : Int × Int))) else (exitO (bif decide (¬ v1326 = 1) then (exitO (some (false : Bool))) else (contO (IntKind.i64.wrap (v1267 + 1) : Int))))
noncomputable def law08_wanted_l8 (v8 : List Form) (v1484 : Int) (v11 : List Int) (v1752 : Int) (v10 : List TItem) (v1751 : Int) (v1774 : Int) : Option ((Int) ⊕ ((Int × Int) ⊕ ((Int) ⊕ (Bool)))) :=
  (rd v8 v1484).bind fun v1781 => bif decide (v1774 < (v1781.Items.length : Int)) then ((rd v11 v1752).bind fun v1782 => (rd v10 v1782).bind fun v1783 => (rd v1781.Items v1774).bind fun v1784 => bif decide (v1784.ID = v1783.ID) && decide (v1784.Version = v1783.Version) then (exitO (contO ((IntKind.i64.wrap (v1751 + 1), IntKind.i64.wrap (v1752 + 1)) : Int × Int))) else (contO (IntKind.i64.wrap (v1774 + 1) : Int))) else (exitO (contO ((v1751, IntKind.i64.wrap (v1752 + 1)) : Int × Int)))
noncomputable def law08_wanted_l7 (v11 : List Int) (v8 : List Form) (v1484 : Int) (v10 : List TItem) (v9 : Int) (v1751 : Int) (v1752 : Int) : Option ((Int × Int) ⊕ ((Int) ⊕ (Bool))) :=
  bif decide (v1752 < (v11.length : Int)) then (iter (fun g : Int => law08_wanted_l8 v8 v1484 v11 v1752 v10 v1751 g) 0) else (exitO (bif decide (v1751 > v9) then (exitO (some (false : Bool))) else (contO (IntKind.i64.wrap (v1484 + 1) : Int))))
noncomputable def law08_wanted_l6 (v8 : List Form) (v11 : List Int) (v10 : List TItem) (v9 : Int) (v1484 : Int) : Option ((Int) ⊕ (Bool)) :=
  bif decide (v1484 < (v8.length : Int)) then (iter (fun g : Int × Int => law08_wanted_l7 v11 v8 v1484 v10 v9 g.1 g.2) (0, 0)) else (exitO (some (true : Bool)))
noncomputable def law08_wanted_l4 (v7 : List Int) (v11 : List Int) (v10 : List TItem) (v8 : List Form) (v9 : Int) (v1267 : Int) : Option ((Int) ⊕ (Bool)) :=
  bif decide (v1267 < (v7.length : Int)) then (iter (fun g : Int × Int => law08_wanted_l5 v11 v10 v7 v1267 g.1 g.2) (0, 0)) else (exitO (iter (fun g : Int => law08_wanted_l6 v8 v11 v10 v9 g) 0))
noncomputable def law08_wanted_l3 (v6 : List TRange) (v10 : List TItem) (v11 : List Int) (v7 : List Int) (v8 : List Form) (v9 : Int) (v1029 : Int) : Option ((Int) ⊕ (Bool)) :=
  bif decide (v1029 < (v6.length : Int)) then ((rd v6 v1029).bind fun v1032 => (law08_marks v10 v11 v1032.Index false).bind fun v1033 => bif decide (v1033 < v1032.Least) then (exitO (some (false : Bool))) else (bif decide (v1033 > v1032.Most) then (exitO (some (false : Bool))) else (contO (IntKind.i64.wrap (v1029 + 1) : Int)))) else (exitO (iter (fun g : Int => law08_wanted_l4 v7 v11 v10 v8 v9 g) 0))
noncomputable def law08_wanted_l2 (v5 : List TRange) (v10 : List TItem) (v11 : List Int) (v6 : List TRange) (v7 : List Int) (v8 : List Form) (v9 : Int) (v1008 : Int) : Option ((Int) ⊕ (Bool)) :=
  bif decide (v1008 < (v5.length : Int)) then ((rd v5 v1008).bind fun v1011 => (law08_marks v10 v11 v1011.Index true).bind fun v1012 => bif decide (v1012 < v1011.Least) then (exitO (some (false : Bool))) else (bif decide (v1012 > v1011.Most) then (exitO (some (false : Bool))) else (contO (IntKind.i64.wrap (v1008 + 1) : Int)))) else (exitO (iter (fun g : Int => law08_wanted_l3 v6 v10 v11 v7 v8 v9 g) 0))
noncomputable def law08_wanted_l0 (v11 : List Int) (v10 : List TItem) (v1 : Int) (v2 : Int) (v3 : Int) (v4 : Int) (v5 : List TRange) (v6 : List TRange) (v7 : List Int) (v8 : List Form) (v9 : Int) (v964 : Int) (v965 : Int) : Option ((Int × Int) ⊕ (Bool)) :=
  bif decide (v965 < (v11.length : Int)) then ((rd v11 v965).bind fun v979 => (rd v10 v979).bind fun v980 => (item_Total v980.ID v980.Version v980.Stem v980.Parts v980.Enemies).bind fun v981 => iter (fun g : Int => law08_wanted_l1 v965 v11 v10 v980 v964 v981 g) 0) else (exitO (bif decide ((v11.length : Int) < v1) then (some (false : Bool)) else (bif decide ((v11.length : Int) > v2) then (some (false : Bool)) else (bif decide (v964 < v3) then (some (false : Bool)) else (bif decide (v964 > v4) then (some (false : Bool)) else (iter (fun g : Int => law08_wanted_l2 v5 v10 v11 v6 v7 v8 v9 g) 0))))))
noncomputable def law08_wanted (v1 : Int) (v2 : Int) (v3 : Int) (v4 : Int) (v5 : List TRange) (v6 : List TRange) (v7 : List Int) (v8 : List Form) (v9 : Int) (v10 : List TItem) (v11 : List Int) : Option (Bool) :=
  iter (fun g : Int × Int => law08_wanted_l0 v11 v10 v1 v2 v3 v4 v5 v6 v7 v8 v9 g.1 g.2) (0, 0)
theorem law08_wanted_ok (v1 : Int) (v2 : Int) (v3 : Int) (v4 : Int) (v5 : List TRange) (v6 : List TRange) (v7 : List Int) (v8 : List Form) (v9 : Int) (v10 : List TItem) (v11 : List Int) (r : Bool) (hx : law08_wanted v1 v2 v3 v4 v5 v6 v7 v8 v9 v10 v11 = some r) :
    ACalls Try.prog 43 [.agg [.d (.int .i64 v1), .d (.int .i64 v2), .d (.int .i64 v3), .d (.int .i64 v4), .d (.sl (List.map TRange.D v5)), .d (.sl (List.map TRange.D v6)), .d (.sl (List.map iD v7)), .d (.sl (List.map Form.D v8)), .d (.int .i64 v9)], .d (.sl (List.map TItem.D v10)), .d (.sl (List.map iD v11))] [] (.d (.bool r)) [] := by
  refine ACalls.of_sem (n := 252) 0 [6] (fn := Try.f43) Try.func43 rfl rfl (.one rfl) rfl (by simp) (by intro i; simp only [hget]; (repeat' split) <;> simp <;> omega) ?_
  unfold law08_wanted at hx
  refine Walk.seq (Walk.region' rfl fun K hK => ?_)
  simp only [go_sem, seval]
  refine hK _ ?_
  clear hK K
  refine Walk.seq (Walk.region' rfl fun K hK => ?_)
  simp only [go_sem, seval]
  refine hK _ ?_
  clear hK K
  refine Walk.seq (Walk.seq (Walk.region' rfl fun K hK => ?_))
  simp only [go_sem, seval]
  refine hK _ ?_
  clear hK K
  refine Walk.block (Walk.loop ?_)
  refine Walk.weaken ⟨[(1, .d (.sl (List.map TItem.D v10))), (2, .d (.sl (List.map iD v11))), (3, .box 3 0), (7, .d (.int .i64 0)), (8, .d (.int .i64 0))], [(3, some (.box [.d (.int .i64 v1), .d (.int .i64 v2), .d (.int .i64 v3), .d (.int .i64 v4), .d (.sl (List.map TRange.D v5)), .d (.sl (List.map TRange.D v6)), .d (.sl (List.map iD v7)), .d (.sl (List.map Form.D v8)), .d (.int .i64 v9)]))]⟩ (by simp <;> omega) (by simp <;> omega) ?_
  refine Walk.iter (σ := Int × Int) (fun g => ⟨[(1, .d (.sl (List.map TItem.D v10))), (2, .d (.sl (List.map iD v11))), (3, .box 3 0), (7, .d (.int .i64 g.1)), (8, .d (.int .i64 g.2))], [(3, some (.box [.d (.int .i64 v1), .d (.int .i64 v2), .d (.int .i64 v3), .d (.int .i64 v4), .d (.sl (List.map TRange.D v5)), .d (.sl (List.map TRange.D v6)), .d (.sl (List.map iD v7)), .d (.sl (List.map Form.D v8)), .d (.int .i64 v9)]))]⟩) (fun g : Int × Int => law08_wanted_l0 v11 v10 v1 v2 v3 v4 v5 v6 v7 v8 v9 g.1 g.2) _ (fun g y8653 hx ih4659 hr4660 => ?_) (0, 0) hx
  obtain ⟨v964, v965⟩ := g
  unfold law08_wanted_l0 at hx
  try dsimp only at hx ⊢
  refine Walk.seq (Walk.seq (Walk.region' rfl fun K hK => ?_))
  simp only [go_sem, seval]
  refine hK _ ?_
  clear hK K
  refine Walk.condO rfl hx (fun c4663 hx => ?_) (fun c4663 hx => ?_)
  · refine Walk.skip (Walk.seq (Walk.block (Walk.seq (Walk.region' rfl fun K hK => ?_))))
    obtain ⟨v979, r4664, a4665, b4666, c4667, hx⟩ := rd_elim hx
    obtain ⟨v980, r4668, a4669, b4670, c4671, hx⟩ := rd_elim hx
    obtain ⟨v981, h4672, hx⟩ := bind_elim hx
    simp only [go_sem, seval, c4663, a4665, b4666, c4667, a4669, b4670, c4671]
    repeat refine And.intro (by first | omega | (simp; done) | (simp; omega)) ?_
    refine VCl.pure rfl (by simp only [go_sem, seval, c4663, a4665, b4666, c4667, a4669, b4670, c4671]; try simp) (item_Total_ok v980.ID v980.Version v980.Stem v980.Parts v980.Enemies _ h4672) (by simp only [go_sem, seval, c4663, a4665, b4666, c4667, a4669, b4670, c4671]; try simp) (by simp only [go_sem, seval, c4663, a4665, b4666, c4667, a4669, b4670, c4671]; try simp) (by simp only [go_sem, seval, c4663, a4665, b4666, c4667, a4669, b4670, c4671]; try simp) (by simp only [go_sem, seval, c4663, a4665, b4666, c4667, a4669, b4670, c4671]; try simp) (by simp only [go_sem, seval, c4663, a4665, b4666, c4667, a4669, b4670, c4671]; try simp) (by simp only [go_sem, seval, c4663, a4665, b4666, c4667, a4669, b4670, c4671]; try simp) ?_
    simp only [go_sem, seval, c4663, a4665, b4666, c4667, a4669, b4670, c4671]
    refine hK _ ?_
    clear hK K
    refine Walk.seq (Walk.region' rfl fun K hK => ?_)
    simp only [go_sem, seval, c4663, a4665, b4666, c4667, a4669, b4670, c4671]
    refine hK _ ?_
    clear hK K
    refine Walk.block (Walk.loop ?_)
    refine Walk.weaken ⟨[(1, .d (.sl (List.map TItem.D v10))), (2, .d (.sl (List.map iD v11))), (3, .box 3 0), (7, .d (.int .i64 (IntKind.i64.wrap (v964 + v981)))), (8, .d (.int .i64 v965)), (9, .d (.int .i64 0))], [(3, some (.box [.d (.int .i64 v1), .d (.int .i64 v2), .d (.int .i64 v3), .d (.int .i64 v4), .d (.sl (List.map TRange.D v5)), .d (.sl (List.map TRange.D v6)), .d (.sl (List.map iD v7)), .d (.sl (List.map Form.D v8)), .d (.int .i64 v9)]))]⟩ (by simp [c4663, a4665, b4666, c4667, a4669, b4670, c4671] <;> omega) (by simp [c4663, a4665, b4666, c4667, a4669, b4670, c4671] <;> omega) ?_
    refine Walk.iter (σ := Int) (fun g => ⟨[(1, .d (.sl (List.map TItem.D v10))), (2, .d (.sl (List.map iD v11))), (3, .box 3 0), (7, .d (.int .i64 (IntKind.i64.wrap (v964 + v981)))), (8, .d (.int .i64 v965)), (9, .d (.int .i64 g))], [(3, some (.box [.d (.int .i64 v1), .d (.int .i64 v2), .d (.int .i64 v3), .d (.int .i64 v4), .d (.sl (List.map TRange.D v5)), .d (.sl (List.map TRange.D v6)), .d (.sl (List.map iD v7)), .d (.sl (List.map Form.D v8)), .d (.int .i64 v9)]))]⟩) (fun g : Int => law08_wanted_l1 v965 v11 v10 v980 v964 v981 g) _ (fun v985 y4727 hx ih4701 hr4702 => ?_) 0 hx
    unfold law08_wanted_l1 at hx
    try dsimp only at hx ⊢
    refine Walk.seq (Walk.seq (Walk.region' rfl fun K hK => ?_))
    simp only [go_sem, seval, c4663, a4665, b4666, c4667, a4669, b4670, c4671]
    refine hK _ ?_
    clear hK K
    refine Walk.condO rfl hx (fun c4705 hx => ?_) (fun c4705 hx => ?_)
    · refine Walk.skip (Walk.seq (Walk.block (Walk.seq (Walk.drawn' rfl mixed fun K hK => ?_))))
      obtain ⟨v989, r4706, a4707, b4708, c4709, hx⟩ := rd_elim hx
      obtain ⟨v990, r4710, a4711, b4712, c4713, hx⟩ := rd_elim hx
      simp only [go_sem, seval, c4663, a4665, b4666, c4667, a4669, b4670, c4671, c4705, a4707, b4708, c4709, a4711, b4712, c4713]
      repeat refine And.intro (by first | omega | (simp; done) | (simp; omega)) ?_
      refine VGdO hx (fun g4714 hx => ?_) (fun g4714 hx => ?_)
      · simp only [go_sem, seval, c4663, a4665, b4666, c4667, a4669, b4670, c4671, c4705, a4707, b4708, c4709, a4711, b4712, c4713, g4714]
        refine hK _ _ (by kernel_rfl) (by simp [c4663, a4665, b4666, c4667, a4669, b4670, c4671, c4705, a4707, b4708, c4709, a4711, b4712, c4713, g4714]) ?_
        clear hK K
        refine Walk.condT rfl (Walk.seq (Walk.region' rfl fun K hK => ?_))
        simp only [go_sem, seval, c4663, a4665, b4666, c4667, a4669, b4670, c4671, c4705, a4707, b4708, c4709, a4711, b4712, c4713, g4714]
        refine hK _ ?_
        clear hK K
        obtain ⟨z4715, e4716, hx⟩ := exit_elim hx
        rw [hr4702 z4715 e4716] at hx
        obtain ⟨z4717, e4718, hx⟩ := exit_elim hx
        rw [hr4660 z4717 e4718] at hx
        obtain rfl := Option.some.inj hx
        exact Walk.ret ⟨by simp [c4663, a4665, b4666, c4667, a4669, b4670, c4671, c4705, a4707, b4708, c4709, a4711, b4712, c4713, g4714], by simp [c4663, a4665, b4666, c4667, a4669, b4670, c4671, c4705, a4707, b4708, c4709, a4711, b4712, c4713, g4714]⟩
      obtain ⟨v991, h4719, hx⟩ := bind_elim hx
      simp only [go_sem, seval, c4663, a4665, b4666, c4667, a4669, b4670, c4671, c4705, a4707, b4708, c4709, a4711, b4712, c4713, g4714]
      repeat refine And.intro (by first | omega | (simp; done) | (simp; omega)) ?_
      refine VCl.pure rfl (by simp only [go_sem, seval, c4663, a4665, b4666, c4667, a4669, b4670, c4671, c4705, a4707, b4708, c4709, a4711, b4712, c4713, g4714]; try simp) (item_Enemy_ok v980.ID v980.Version v980.Stem v980.Parts v980.Enemies v990.ID v990.Version v990.Stem v990.Parts v990.Enemies _ h4719) (by simp only [go_sem, seval, c4663, a4665, b4666, c4667, a4669, b4670, c4671, c4705, a4707, b4708, c4709, a4711, b4712, c4713, g4714]; try simp) (by simp only [go_sem, seval, c4663, a4665, b4666, c4667, a4669, b4670, c4671, c4705, a4707, b4708, c4709, a4711, b4712, c4713, g4714]; try simp) (by simp only [go_sem, seval, c4663, a4665, b4666, c4667, a4669, b4670, c4671, c4705, a4707, b4708, c4709, a4711, b4712, c4713, g4714]; try simp) (by simp only [go_sem, seval, c4663, a4665, b4666, c4667, a4669, b4670, c4671, c4705, a4707, b4708, c4709, a4711, b4712, c4713, g4714]; try simp) (by simp only [go_sem, seval, c4663, a4665, b4666, c4667, a4669, b4670, c4671, c4705, a4707, b4708, c4709, a4711, b4712, c4713, g4714]; try simp) (by simp only [go_sem, seval, c4663, a4665, b4666, c4667, a4669, b4670, c4671, c4705, a4707, b4708, c4709, a4711, b4712, c4713, g4714]; try simp) ?_
      simp only [go_sem, seval, c4663, a4665, b4666, c4667, a4669, b4670, c4671, c4705, a4707, b4708, c4709, a4711, b4712, c4713, g4714]
      refine hK _ _ (by kernel_rfl) (by simp [c4663, a4665, b4666, c4667, a4669, b4670, c4671, c4705, a4707, b4708, c4709, a4711, b4712, c4713, g4714]) ?_
      clear hK K
      refine Walk.condO rfl hx (fun c4720 hx => ?_) (fun c4720 hx => ?_)
      · refine Walk.seq (Walk.region' rfl fun K hK => ?_)
        simp only [go_sem, seval, c4663, a4665, b4666, c4667, a4669, b4670, c4671, c4705, a4707, b4708, c4709, a4711, b4712, c4713, g4714, c4720]
        refine hK _ ?_
        clear hK K
        obtain ⟨z4721, e4722, hx⟩ := exit_elim hx
        rw [hr4702 z4721 e4722] at hx
        obtain ⟨z4723, e4724, hx⟩ := exit_elim hx
        rw [hr4660 z4723 e4724] at hx
        obtain rfl := Option.some.inj hx
        exact Walk.ret ⟨by simp [c4663, a4665, b4666, c4667, a4669, b4670, c4671, c4705, a4707, b4708, c4709, a4711, b4712, c4713, g4714, c4720], by simp [c4663, a4665, b4666, c4667, a4669, b4670, c4671, c4705, a4707, b4708, c4709, a4711, b4712, c4713, g4714, c4720]⟩
      refine Walk.skip (Walk.inBlock (Walk.region' rfl fun K hK => ?_))
      simp only [go_sem, seval, c4663, a4665, b4666, c4667, a4669, b4670, c4671, c4705, a4707, b4708, c4709, a4711, b4712, c4713, g4714, c4720]
      refine hK _ ?_
      clear hK K
      exact Walk.weaken _ (by simp [c4663, a4665, b4666, c4667, a4669, b4670, c4671, c4705, a4707, b4708, c4709, a4711, b4712, c4713, g4714, c4720] <;> omega) (by simp [c4663, a4665, b4666, c4667, a4669, b4670, c4671, c4705, a4707, b4708, c4709, a4711, b4712, c4713, g4714, c4720] <;> omega) (ih4701 _ (cont_elim hx))
    refine Walk.exit rfl ?_
    obtain ⟨z4725, e4726, hx⟩ := exit_elim hx
    rw [hr4702 z4725 e4726] at hx
    refine Walk.inBlock (Walk.region' rfl fun K hK => ?_)
    simp only [go_sem, seval, c4663, a4665, b4666, c4667, a4669, b4670, c4671, c4705]
    refine hK _ ?_
    clear hK K
    exact Walk.weaken _ (by simp [c4663, a4665, b4666, c4667, a4669, b4670, c4671, c4705] <;> omega) (by simp [c4663, a4665, b4666, c4667, a4669, b4670, c4671, c4705] <;> omega) (ih4659 _ (cont_elim hx))
  refine Walk.exit rfl ?_
  obtain ⟨z4728, e4729, hx⟩ := exit_elim hx
  rw [hr4660 z4728 e4729] at hx
  refine Walk.seq (Walk.seq (Walk.region' rfl fun K hK => ?_))
  simp only [go_sem, seval, c4663]
  refine VGdO hx (fun g4734 hx => ?_) (fun g4734 hx => ?_)
  · simp only [go_sem, seval, c4663, g4734]
    refine hK _ ?_
    clear hK K
    refine Walk.condT rfl (Walk.seq (Walk.region' rfl fun K hK => ?_))
    simp only [go_sem, seval, c4663, g4734]
    refine hK _ ?_
    clear hK K
    obtain rfl := Option.some.inj hx
    exact Walk.ret ⟨by simp [c4663, g4734], by simp [c4663, g4734]⟩
  simp only [go_sem, seval, c4663, g4734]
  refine VGdO hx (fun g4735 hx => ?_) (fun g4735 hx => ?_)
  · simp only [go_sem, seval, c4663, g4734, g4735]
    refine hK _ ?_
    clear hK K
    refine Walk.condT rfl (Walk.seq (Walk.region' rfl fun K hK => ?_))
    simp only [go_sem, seval, c4663, g4734, g4735]
    refine hK _ ?_
    clear hK K
    obtain rfl := Option.some.inj hx
    exact Walk.ret ⟨by simp [c4663, g4734, g4735], by simp [c4663, g4734, g4735]⟩
  simp only [go_sem, seval, c4663, g4734, g4735]
  refine VGdO hx (fun g4736 hx => ?_) (fun g4736 hx => ?_)
  · simp only [go_sem, seval, c4663, g4734, g4735, g4736]
    refine hK _ ?_
    clear hK K
    refine Walk.condT rfl (Walk.seq (Walk.region' rfl fun K hK => ?_))
    simp only [go_sem, seval, c4663, g4734, g4735, g4736]
    refine hK _ ?_
    clear hK K
    obtain rfl := Option.some.inj hx
    exact Walk.ret ⟨by simp [c4663, g4734, g4735, g4736], by simp [c4663, g4734, g4735, g4736]⟩
  simp only [go_sem, seval, c4663, g4734, g4735, g4736]
  refine hK _ ?_
  clear hK K
  refine Walk.condO rfl hx (fun c4738 hx => ?_) (fun c4738 hx => ?_)
  · refine Walk.seq (Walk.region' rfl fun K hK => ?_)
    simp only [go_sem, seval, c4663, g4734, g4735, g4736, c4738]
    refine hK _ ?_
    clear hK K
    obtain rfl := Option.some.inj hx
    exact Walk.ret ⟨by simp [c4663, g4734, g4735, g4736, c4738], by simp [c4663, g4734, g4735, g4736, c4738]⟩
  refine Walk.skip (Walk.seq (Walk.seq (Walk.region' rfl fun K hK => ?_)))
  simp only [go_sem, seval, c4663, g4734, g4735, g4736, c4738]
  refine hK _ ?_
  clear hK K
  refine Walk.block (Walk.loop ?_)
  refine Walk.weaken ⟨[(1, .d (.sl (List.map TItem.D v10))), (2, .d (.sl (List.map iD v11))), (3, .box 3 0), (10, .d (.int .i64 0))], [(3, some (.box [.d (.int .i64 v1), .d (.int .i64 v2), .d (.int .i64 v3), .d (.int .i64 v4), .d (.sl (List.map TRange.D v5)), .d (.sl (List.map TRange.D v6)), .d (.sl (List.map iD v7)), .d (.sl (List.map Form.D v8)), .d (.int .i64 v9)]))]⟩ (by simp [c4663, g4734, g4735, g4736, c4738] <;> omega) (by simp [c4663, g4734, g4735, g4736, c4738] <;> omega) ?_
  refine Walk.iter (σ := Int) (fun g => ⟨[(1, .d (.sl (List.map TItem.D v10))), (2, .d (.sl (List.map iD v11))), (3, .box 3 0), (10, .d (.int .i64 g))], [(3, some (.box [.d (.int .i64 v1), .d (.int .i64 v2), .d (.int .i64 v3), .d (.int .i64 v4), .d (.sl (List.map TRange.D v5)), .d (.sl (List.map TRange.D v6)), .d (.sl (List.map iD v7)), .d (.sl (List.map Form.D v8)), .d (.int .i64 v9)]))]⟩) (fun g : Int => law08_wanted_l2 v5 v10 v11 v6 v7 v8 v9 g) _ (fun v1008 y8652 hx ih4827 hr4828 => ?_) 0 hx
  unfold law08_wanted_l2 at hx
  try dsimp only at hx ⊢
  refine Walk.seq (Walk.seq (Walk.region' rfl fun K hK => ?_))
  simp only [go_sem, seval, c4663, g4734, g4735, g4736, c4738]
  refine hK _ ?_
  clear hK K
  refine Walk.condO rfl hx (fun c4831 hx => ?_) (fun c4831 hx => ?_)
  · refine Walk.skip (Walk.seq (Walk.block (Walk.seq (Walk.region' rfl fun K hK => ?_))))
    obtain ⟨v1011, r4832, a4833, b4834, c4835, hx⟩ := rd_elim hx
    obtain ⟨v1012, h4836, hx⟩ := bind_elim hx
    simp only [go_sem, seval, c4663, g4734, g4735, g4736, c4738, c4831, a4833, b4834, c4835]
    repeat refine And.intro (by first | omega | (simp; done) | (simp; omega)) ?_
    refine VCl.pure rfl (by simp only [go_sem, seval, c4663, g4734, g4735, g4736, c4738, c4831, a4833, b4834, c4835]; try simp) (law08_marks_ok v10 v11 v1011.Index true _ h4836) (by simp only [go_sem, seval, c4663, g4734, g4735, g4736, c4738, c4831, a4833, b4834, c4835]; try simp) (by simp only [go_sem, seval, c4663, g4734, g4735, g4736, c4738, c4831, a4833, b4834, c4835]; try simp) (by simp only [go_sem, seval, c4663, g4734, g4735, g4736, c4738, c4831, a4833, b4834, c4835]; try simp) (by simp only [go_sem, seval, c4663, g4734, g4735, g4736, c4738, c4831, a4833, b4834, c4835]; try simp) (by simp only [go_sem, seval, c4663, g4734, g4735, g4736, c4738, c4831, a4833, b4834, c4835]; try simp) (by simp only [go_sem, seval, c4663, g4734, g4735, g4736, c4738, c4831, a4833, b4834, c4835]; try simp) ?_
    simp only [go_sem, seval, c4663, g4734, g4735, g4736, c4738, c4831, a4833, b4834, c4835]
    refine hK _ ?_
    clear hK K
    refine Walk.seq (Walk.region' rfl fun K hK => ?_)
    simp only [go_sem, seval, c4663, g4734, g4735, g4736, c4738, c4831, a4833, b4834, c4835]
    repeat refine And.intro (by first | omega | (simp; done) | (simp; omega)) ?_
    refine VGdO hx (fun g4837 hx => ?_) (fun g4837 hx => ?_)
    · simp only [go_sem, seval, c4663, g4734, g4735, g4736, c4738, c4831, a4833, b4834, c4835, g4837]
      refine hK _ ?_
      clear hK K
      refine Walk.condT rfl (Walk.seq (Walk.region' rfl fun K hK => ?_))
      simp only [go_sem, seval, c4663, g4734, g4735, g4736, c4738, c4831, a4833, b4834, c4835, g4837]
      refine hK _ ?_
      clear hK K
      obtain ⟨z4838, e4839, hx⟩ := exit_elim hx
      rw [hr4828 z4838 e4839] at hx
      obtain rfl := Option.some.inj hx
      exact Walk.ret ⟨by simp [c4663, g4734, g4735, g4736, c4738, c4831, a4833, b4834, c4835, g4837], by simp [c4663, g4734, g4735, g4736, c4738, c4831, a4833, b4834, c4835, g4837]⟩
    simp only [go_sem, seval, c4663, g4734, g4735, g4736, c4738, c4831, a4833, b4834, c4835, g4837]
    repeat refine And.intro (by first | omega | (simp; done) | (simp; omega)) ?_
    refine hK _ ?_
    clear hK K
    refine Walk.condO rfl hx (fun c4840 hx => ?_) (fun c4840 hx => ?_)
    · refine Walk.seq (Walk.region' rfl fun K hK => ?_)
      simp only [go_sem, seval, c4663, g4734, g4735, g4736, c4738, c4831, a4833, b4834, c4835, g4837, c4840]
      refine hK _ ?_
      clear hK K
      obtain ⟨z4841, e4842, hx⟩ := exit_elim hx
      rw [hr4828 z4841 e4842] at hx
      obtain rfl := Option.some.inj hx
      exact Walk.ret ⟨by simp [c4663, g4734, g4735, g4736, c4738, c4831, a4833, b4834, c4835, g4837, c4840], by simp [c4663, g4734, g4735, g4736, c4738, c4831, a4833, b4834, c4835, g4837, c4840]⟩
    refine Walk.skip (Walk.inBlock (Walk.region' rfl fun K hK => ?_))
    simp only [go_sem, seval, c4663, g4734, g4735, g4736, c4738, c4831, a4833, b4834, c4835, g4837, c4840]
    refine hK _ ?_
    clear hK K
    exact Walk.weaken _ (by simp [c4663, g4734, g4735, g4736, c4738, c4831, a4833, b4834, c4835, g4837, c4840] <;> omega) (by simp [c4663, g4734, g4735, g4736, c4738, c4831, a4833, b4834, c4835, g4837, c4840] <;> omega) (ih4827 _ (cont_elim hx))
  refine Walk.exit rfl ?_
  obtain ⟨z4843, e4844, hx⟩ := exit_elim hx
  rw [hr4828 z4843 e4844] at hx
  refine Walk.seq (Walk.seq (Walk.region' rfl fun K hK => ?_))
  simp only [go_sem, seval, c4663, g4734, g4735, g4736, c4738, c4831]
  refine hK _ ?_
  clear hK K
  refine Walk.block (Walk.loop ?_)
  refine Walk.weaken ⟨[(1, .d (.sl (List.map TItem.D v10))), (2, .d (.sl (List.map iD v11))), (3, .box 3 0), (12, .d (.int .i64 0))], [(3, some (.box [.d (.int .i64 v1), .d (.int .i64 v2), .d (.int .i64 v3), .d (.int .i64 v4), .d (.sl (List.map TRange.D v5)), .d (.sl (List.map TRange.D v6)), .d (.sl (List.map iD v7)), .d (.sl (List.map Form.D v8)), .d (.int .i64 v9)]))]⟩ (by simp [c4663, g4734, g4735, g4736, c4738, c4831] <;> omega) (by simp [c4663, g4734, g4735, g4736, c4738, c4831] <;> omega) ?_
  refine Walk.iter (σ := Int) (fun g => ⟨[(1, .d (.sl (List.map TItem.D v10))), (2, .d (.sl (List.map iD v11))), (3, .box 3 0), (12, .d (.int .i64 g))], [(3, some (.box [.d (.int .i64 v1), .d (.int .i64 v2), .d (.int .i64 v3), .d (.int .i64 v4), .d (.sl (List.map TRange.D v5)), .d (.sl (List.map TRange.D v6)), .d (.sl (List.map iD v7)), .d (.sl (List.map Form.D v8)), .d (.int .i64 v9)]))]⟩) (fun g : Int => law08_wanted_l3 v6 v10 v11 v7 v8 v9 g) _ (fun v1029 y8651 hx ih4933 hr4934 => ?_) 0 hx
  unfold law08_wanted_l3 at hx
  try dsimp only at hx ⊢
  refine Walk.seq (Walk.seq (Walk.region' rfl fun K hK => ?_))
  simp only [go_sem, seval, c4663, g4734, g4735, g4736, c4738, c4831]
  refine hK _ ?_
  clear hK K
  refine Walk.condO rfl hx (fun c4937 hx => ?_) (fun c4937 hx => ?_)
  · refine Walk.skip (Walk.seq (Walk.block (Walk.seq (Walk.region' rfl fun K hK => ?_))))
    obtain ⟨v1032, r4938, a4939, b4940, c4941, hx⟩ := rd_elim hx
    obtain ⟨v1033, h4942, hx⟩ := bind_elim hx
    simp only [go_sem, seval, c4663, g4734, g4735, g4736, c4738, c4831, c4937, a4939, b4940, c4941]
    repeat refine And.intro (by first | omega | (simp; done) | (simp; omega)) ?_
    refine VCl.pure rfl (by simp only [go_sem, seval, c4663, g4734, g4735, g4736, c4738, c4831, c4937, a4939, b4940, c4941]; try simp) (law08_marks_ok v10 v11 v1032.Index false _ h4942) (by simp only [go_sem, seval, c4663, g4734, g4735, g4736, c4738, c4831, c4937, a4939, b4940, c4941]; try simp) (by simp only [go_sem, seval, c4663, g4734, g4735, g4736, c4738, c4831, c4937, a4939, b4940, c4941]; try simp) (by simp only [go_sem, seval, c4663, g4734, g4735, g4736, c4738, c4831, c4937, a4939, b4940, c4941]; try simp) (by simp only [go_sem, seval, c4663, g4734, g4735, g4736, c4738, c4831, c4937, a4939, b4940, c4941]; try simp) (by simp only [go_sem, seval, c4663, g4734, g4735, g4736, c4738, c4831, c4937, a4939, b4940, c4941]; try simp) (by simp only [go_sem, seval, c4663, g4734, g4735, g4736, c4738, c4831, c4937, a4939, b4940, c4941]; try simp) ?_
    simp only [go_sem, seval, c4663, g4734, g4735, g4736, c4738, c4831, c4937, a4939, b4940, c4941]
    refine hK _ ?_
    clear hK K
    refine Walk.seq (Walk.region' rfl fun K hK => ?_)
    simp only [go_sem, seval, c4663, g4734, g4735, g4736, c4738, c4831, c4937, a4939, b4940, c4941]
    repeat refine And.intro (by first | omega | (simp; done) | (simp; omega)) ?_
    refine VGdO hx (fun g4943 hx => ?_) (fun g4943 hx => ?_)
    · simp only [go_sem, seval, c4663, g4734, g4735, g4736, c4738, c4831, c4937, a4939, b4940, c4941, g4943]
      refine hK _ ?_
      clear hK K
      refine Walk.condT rfl (Walk.seq (Walk.region' rfl fun K hK => ?_))
      simp only [go_sem, seval, c4663, g4734, g4735, g4736, c4738, c4831, c4937, a4939, b4940, c4941, g4943]
      refine hK _ ?_
      clear hK K
      obtain ⟨z4944, e4945, hx⟩ := exit_elim hx
      rw [hr4934 z4944 e4945] at hx
      obtain rfl := Option.some.inj hx
      exact Walk.ret ⟨by simp [c4663, g4734, g4735, g4736, c4738, c4831, c4937, a4939, b4940, c4941, g4943], by simp [c4663, g4734, g4735, g4736, c4738, c4831, c4937, a4939, b4940, c4941, g4943]⟩
    simp only [go_sem, seval, c4663, g4734, g4735, g4736, c4738, c4831, c4937, a4939, b4940, c4941, g4943]
    repeat refine And.intro (by first | omega | (simp; done) | (simp; omega)) ?_
    refine hK _ ?_
    clear hK K
    refine Walk.condO rfl hx (fun c4946 hx => ?_) (fun c4946 hx => ?_)
    · refine Walk.seq (Walk.region' rfl fun K hK => ?_)
      simp only [go_sem, seval, c4663, g4734, g4735, g4736, c4738, c4831, c4937, a4939, b4940, c4941, g4943, c4946]
      refine hK _ ?_
      clear hK K
      obtain ⟨z4947, e4948, hx⟩ := exit_elim hx
      rw [hr4934 z4947 e4948] at hx
      obtain rfl := Option.some.inj hx
      exact Walk.ret ⟨by simp [c4663, g4734, g4735, g4736, c4738, c4831, c4937, a4939, b4940, c4941, g4943, c4946], by simp [c4663, g4734, g4735, g4736, c4738, c4831, c4937, a4939, b4940, c4941, g4943, c4946]⟩
    refine Walk.skip (Walk.inBlock (Walk.region' rfl fun K hK => ?_))
    simp only [go_sem, seval, c4663, g4734, g4735, g4736, c4738, c4831, c4937, a4939, b4940, c4941, g4943, c4946]
    refine hK _ ?_
    clear hK K
    exact Walk.weaken _ (by simp [c4663, g4734, g4735, g4736, c4738, c4831, c4937, a4939, b4940, c4941, g4943, c4946] <;> omega) (by simp [c4663, g4734, g4735, g4736, c4738, c4831, c4937, a4939, b4940, c4941, g4943, c4946] <;> omega) (ih4933 _ (cont_elim hx))
  refine Walk.exit rfl ?_
  obtain ⟨z4949, e4950, hx⟩ := exit_elim hx
  rw [hr4934 z4949 e4950] at hx
  refine Walk.seq (Walk.seq (Walk.region' rfl fun K hK => ?_))
  simp only [go_sem, seval, c4663, g4734, g4735, g4736, c4738, c4831, c4937]
  refine hK _ ?_
  clear hK K
  refine Walk.block (Walk.loop ?_)
  refine Walk.weaken ⟨[(1, .d (.sl (List.map TItem.D v10))), (2, .d (.sl (List.map iD v11))), (3, .box 3 0), (14, .d (.int .i64 0))], [(3, some (.box [.d (.int .i64 v1), .d (.int .i64 v2), .d (.int .i64 v3), .d (.int .i64 v4), .d (.sl (List.map TRange.D v5)), .d (.sl (List.map TRange.D v6)), .d (.sl (List.map iD v7)), .d (.sl (List.map Form.D v8)), .d (.int .i64 v9)]))]⟩ (by simp [c4663, g4734, g4735, g4736, c4738, c4831, c4937] <;> omega) (by simp [c4663, g4734, g4735, g4736, c4738, c4831, c4937] <;> omega) ?_
  refine Walk.iter (σ := Int) (fun g => ⟨[(1, .d (.sl (List.map TItem.D v10))), (2, .d (.sl (List.map iD v11))), (3, .box 3 0), (14, .d (.int .i64 g))], [(3, some (.box [.d (.int .i64 v1), .d (.int .i64 v2), .d (.int .i64 v3), .d (.int .i64 v4), .d (.sl (List.map TRange.D v5)), .d (.sl (List.map TRange.D v6)), .d (.sl (List.map iD v7)), .d (.sl (List.map Form.D v8)), .d (.int .i64 v9)]))]⟩) (fun g : Int => law08_wanted_l4 v7 v11 v10 v8 v9 g) _ (fun v1267 y8650 hx ih6239 hr6240 => ?_) 0 hx
  unfold law08_wanted_l4 at hx
  try dsimp only at hx ⊢
  refine Walk.seq (Walk.seq (Walk.region' rfl fun K hK => ?_))
  simp only [go_sem, seval, c4663, g4734, g4735, g4736, c4738, c4831, c4937]
  refine hK _ ?_
  clear hK K
  refine Walk.condO rfl hx (fun c6243 hx => ?_) (fun c6243 hx => ?_)
  · refine Walk.skip (Walk.seq (Walk.block (Walk.seq (Walk.region' rfl fun K hK => ?_))))
    simp only [go_sem, seval, c4663, g4734, g4735, g4736, c4738, c4831, c4937, c6243]
    refine hK _ ?_
    clear hK K
    refine Walk.seq (Walk.seq (Walk.region' rfl fun K hK => ?_))
    simp only [go_sem, seval, c4663, g4734, g4735, g4736, c4738, c4831, c4937, c6243]
    refine hK _ ?_
    clear hK K
    refine Walk.block (Walk.loop ?_)
    refine Walk.weaken ⟨[(1, .d (.sl (List.map TItem.D v10))), (2, .d (.sl (List.map iD v11))), (3, .box 3 0), (14, .d (.int .i64 v1267)), (15, .d (.int .i64 0)), (16, .d (.int .i64 0))], [(3, some (.box [.d (.int .i64 v1), .d (.int .i64 v2), .d (.int .i64 v3), .d (.int .i64 v4), .d (.sl (List.map TRange.D v5)), .d (.sl (List.map TRange.D v6)), .d (.sl (List.map iD v7)), .d (.sl (List.map Form.D v8)), .d (.int .i64 v9)]))]⟩ (by simp [c4663, g4734, g4735, g4736, c4738, c4831, c4937, c6243] <;> omega) (by simp [c4663, g4734, g4735, g4736, c4738, c4831, c4937, c6243] <;> omega) ?_
    refine Walk.iter (σ := Int × Int) (fun g => ⟨[(1, .d (.sl (List.map TItem.D v10))), (2, .d (.sl (List.map iD v11))), (3, .box 3 0), (14, .d (.int .i64 v1267)), (15, .d (.int .i64 g.1)), (16, .d (.int .i64 g.2))], [(3, some (.box [.d (.int .i64 v1), .d (.int .i64 v2), .d (.int .i64 v3), .d (.int .i64 v4), .d (.sl (List.map TRange.D v5)), .d (.sl (List.map TRange.D v6)), .d (.sl (List.map iD v7)), .d (.sl (List.map Form.D v8)), .d (.int .i64 v9)]))]⟩) (fun g : Int × Int => law08_wanted_l5 v11 v10 v7 v1267 g.1 g.2) _ (fun g y6403 hx ih6380 hr6381 => ?_) (0, 0) hx
    obtain ⟨v1326, v1327⟩ := g
    unfold law08_wanted_l5 at hx
    try dsimp only at hx ⊢
    refine Walk.seq (Walk.seq (Walk.region' rfl fun K hK => ?_))
    simp only [go_sem, seval, c4663, g4734, g4735, g4736, c4738, c4831, c4937, c6243]
    refine hK _ ?_
    clear hK K
    refine Walk.condO rfl hx (fun c6384 hx => ?_) (fun c6384 hx => ?_)
    · refine Walk.skip (Walk.seq (Walk.block (Walk.seq (Walk.drawn' rfl mixed fun K hK => ?_))))
      obtain ⟨v1331, r6385, a6386, b6387, c6388, hx⟩ := rd_elim hx
      obtain ⟨v1332, r6389, a6390, b6391, c6392, hx⟩ := rd_elim hx
      obtain ⟨v1333, r6393, a6394, b6395, c6396, hx⟩ := rd_elim hx
      simp only [go_sem, seval, c4663, g4734, g4735, g4736, c4738, c4831, c4937, c6243, c6384, a6386, b6387, c6388, a6390, b6391, c6392, a6394, b6395, c6396]
      repeat refine And.intro (by first | omega | (simp; done) | (simp; omega)) ?_
      refine hK _ _ (by kernel_rfl) (by simp [c4663, g4734, g4735, g4736, c4738, c4831, c4937, c6243, c6384, a6386, b6387, c6388, a6390, b6391, c6392, a6394, b6395, c6396]) ?_
      clear hK K
      refine Walk.condO rfl hx (fun c6397 hx => ?_) (fun c6397 hx => ?_)
      · refine Walk.region' rfl fun K hK => ?_
        simp only [go_sem, seval, c4663, g4734, g4735, g4736, c4738, c4831, c4937, c6243, c6384, a6386, b6387, c6388, a6390, b6391, c6392, a6394, b6395, c6396, c6397]
        refine hK _ ?_
        clear hK K
        refine Walk.inBlock (Walk.region' rfl fun K hK => ?_)
        simp only [go_sem, seval, c4663, g4734, g4735, g4736, c4738, c4831, c4937, c6243, c6384, a6386, b6387, c6388, a6390, b6391, c6392, a6394, b6395, c6396, c6397]
        refine hK _ ?_
        clear hK K
        exact Walk.weaken _ (by simp [c4663, g4734, g4735, g4736, c4738, c4831, c4937, c6243, c6384, a6386, b6387, c6388, a6390, b6391, c6392, a6394, b6395, c6396, c6397] <;> omega) (by simp [c4663, g4734, g4735, g4736, c4738, c4831, c4937, c6243, c6384, a6386, b6387, c6388, a6390, b6391, c6392, a6394, b6395, c6396, c6397] <;> omega) (ih6380 _ (cont_elim hx))
      refine Walk.skip (Walk.inBlock (Walk.region' rfl fun K hK => ?_))
      simp only [go_sem, seval, c4663, g4734, g4735, g4736, c4738, c4831, c4937, c6243, c6384, a6386, b6387, c6388, a6390, b6391, c6392, a6394, b6395, c6396, c6397]
      refine hK _ ?_
      clear hK K
      exact Walk.weaken _ (by simp [c4663, g4734, g4735, g4736, c4738, c4831, c4937, c6243, c6384, a6386, b6387, c6388, a6390, b6391, c6392, a6394, b6395, c6396, c6397] <;> omega) (by simp [c4663, g4734, g4735, g4736, c4738, c4831, c4937, c6243, c6384, a6386, b6387, c6388, a6390, b6391, c6392, a6394, b6395, c6396, c6397] <;> omega) (ih6380 _ (cont_elim hx))
    refine Walk.exit rfl ?_
    obtain ⟨z6398, e6399, hx⟩ := exit_elim hx
    rw [hr6381 z6398 e6399] at hx
    refine Walk.seq (Walk.region' rfl fun K hK => ?_)
    simp only [go_sem, seval, c4663, g4734, g4735, g4736, c4738, c4831, c4937, c6243, c6384]
    refine hK _ ?_
    clear hK K
    refine Walk.condO rfl hx (fun c6400 hx => ?_) (fun c6400 hx => ?_)
    · refine Walk.seq (Walk.region' rfl fun K hK => ?_)
      simp only [go_sem, seval, c4663, g4734, g4735, g4736, c4738, c4831, c4937, c6243, c6384, c6400]
      refine hK _ ?_
      clear hK K
      obtain ⟨z6401, e6402, hx⟩ := exit_elim hx
      rw [hr6240 z6401 e6402] at hx
      obtain rfl := Option.some.inj hx
      exact Walk.ret ⟨by simp [c4663, g4734, g4735, g4736, c4738, c4831, c4937, c6243, c6384, c6400], by simp [c4663, g4734, g4735, g4736, c4738, c4831, c4937, c6243, c6384, c6400]⟩
    refine Walk.skip (Walk.inBlock (Walk.region' rfl fun K hK => ?_))
    simp only [go_sem, seval, c4663, g4734, g4735, g4736, c4738, c4831, c4937, c6243, c6384, c6400]
    refine hK _ ?_
    clear hK K
    exact Walk.weaken _ (by simp [c4663, g4734, g4735, g4736, c4738, c4831, c4937, c6243, c6384, c6400] <;> omega) (by simp [c4663, g4734, g4735, g4736, c4738, c4831, c4937, c6243, c6384, c6400] <;> omega) (ih6239 _ (cont_elim hx))
  refine Walk.exit rfl ?_
  obtain ⟨z6404, e6405, hx⟩ := exit_elim hx
  rw [hr6240 z6404 e6405] at hx
  refine Walk.seq (Walk.seq (Walk.region' rfl fun K hK => ?_))
  simp only [go_sem, seval, c4663, g4734, g4735, g4736, c4738, c4831, c4937, c6243]
  refine hK _ ?_
  clear hK K
  refine Walk.block (Walk.loop ?_)
  refine Walk.weaken ⟨[(1, .d (.sl (List.map TItem.D v10))), (2, .d (.sl (List.map iD v11))), (3, .box 3 0), (17, .d (.int .i64 0))], [(3, some (.box [.d (.int .i64 v1), .d (.int .i64 v2), .d (.int .i64 v3), .d (.int .i64 v4), .d (.sl (List.map TRange.D v5)), .d (.sl (List.map TRange.D v6)), .d (.sl (List.map iD v7)), .d (.sl (List.map Form.D v8)), .d (.int .i64 v9)]))]⟩ (by simp [c4663, g4734, g4735, g4736, c4738, c4831, c4937, c6243] <;> omega) (by simp [c4663, g4734, g4735, g4736, c4738, c4831, c4937, c6243] <;> omega) ?_
  refine Walk.iter (σ := Int) (fun g => ⟨[(1, .d (.sl (List.map TItem.D v10))), (2, .d (.sl (List.map iD v11))), (3, .box 3 0), (17, .d (.int .i64 g))], [(3, some (.box [.d (.int .i64 v1), .d (.int .i64 v2), .d (.int .i64 v3), .d (.int .i64 v4), .d (.sl (List.map TRange.D v5)), .d (.sl (List.map TRange.D v6)), .d (.sl (List.map iD v7)), .d (.sl (List.map Form.D v8)), .d (.int .i64 v9)]))]⟩) (fun g : Int => law08_wanted_l6 v8 v11 v10 v9 g) _ (fun v1484 y8649 hx ih7896 hr7897 => ?_) 0 hx
  unfold law08_wanted_l6 at hx
  try dsimp only at hx ⊢
  refine Walk.seq (Walk.seq (Walk.region' rfl fun K hK => ?_))
  simp only [go_sem, seval, c4663, g4734, g4735, g4736, c4738, c4831, c4937, c6243]
  refine hK _ ?_
  clear hK K
  refine Walk.condO rfl hx (fun c7900 hx => ?_) (fun c7900 hx => ?_)
  · refine Walk.skip (Walk.seq (Walk.block (Walk.seq (Walk.region' rfl fun K hK => ?_))))
    simp only [go_sem, seval, c4663, g4734, g4735, g4736, c4738, c4831, c4937, c6243, c7900]
    refine hK _ ?_
    clear hK K
    refine Walk.seq (Walk.seq (Walk.region' rfl fun K hK => ?_))
    simp only [go_sem, seval, c4663, g4734, g4735, g4736, c4738, c4831, c4937, c6243, c7900]
    refine hK _ ?_
    clear hK K
    refine Walk.block (Walk.loop ?_)
    refine Walk.weaken ⟨[(1, .d (.sl (List.map TItem.D v10))), (2, .d (.sl (List.map iD v11))), (3, .box 3 0), (17, .d (.int .i64 v1484)), (18, .d (.int .i64 0)), (19, .d (.int .i64 0))], [(3, some (.box [.d (.int .i64 v1), .d (.int .i64 v2), .d (.int .i64 v3), .d (.int .i64 v4), .d (.sl (List.map TRange.D v5)), .d (.sl (List.map TRange.D v6)), .d (.sl (List.map iD v7)), .d (.sl (List.map Form.D v8)), .d (.int .i64 v9)]))]⟩ (by simp [c4663, g4734, g4735, g4736, c4738, c4831, c4937, c6243, c7900] <;> omega) (by simp [c4663, g4734, g4735, g4736, c4738, c4831, c4937, c6243, c7900] <;> omega) ?_
    refine Walk.iter (σ := Int × Int) (fun g => ⟨[(1, .d (.sl (List.map TItem.D v10))), (2, .d (.sl (List.map iD v11))), (3, .box 3 0), (17, .d (.int .i64 v1484)), (18, .d (.int .i64 g.1)), (19, .d (.int .i64 g.2))], [(3, some (.box [.d (.int .i64 v1), .d (.int .i64 v2), .d (.int .i64 v3), .d (.int .i64 v4), .d (.sl (List.map TRange.D v5)), .d (.sl (List.map TRange.D v6)), .d (.sl (List.map iD v7)), .d (.sl (List.map Form.D v8)), .d (.int .i64 v9)]))]⟩) (fun g : Int × Int => law08_wanted_l7 v11 v8 v1484 v10 v9 g.1 g.2) _ (fun g y8646 hx ih8557 hr8558 => ?_) (0, 0) hx
    obtain ⟨v1751, v1752⟩ := g
    unfold law08_wanted_l7 at hx
    try dsimp only at hx ⊢
    refine Walk.seq (Walk.seq (Walk.region' rfl fun K hK => ?_))
    simp only [go_sem, seval, c4663, g4734, g4735, g4736, c4738, c4831, c4937, c6243, c7900]
    refine hK _ ?_
    clear hK K
    refine Walk.condO rfl hx (fun c8561 hx => ?_) (fun c8561 hx => ?_)
    · refine Walk.skip (Walk.seq (Walk.block (Walk.seq (Walk.region' rfl fun K hK => ?_))))
      simp only [go_sem, seval, c4663, g4734, g4735, g4736, c4738, c4831, c4937, c6243, c7900, c8561]
      refine hK _ ?_
      clear hK K
      refine Walk.block (Walk.loop ?_)
      refine Walk.weaken ⟨[(1, .d (.sl (List.map TItem.D v10))), (2, .d (.sl (List.map iD v11))), (3, .box 3 0), (17, .d (.int .i64 v1484)), (18, .d (.int .i64 v1751)), (19, .d (.int .i64 v1752)), (20, .d (.int .i64 0))], [(3, some (.box [.d (.int .i64 v1), .d (.int .i64 v2), .d (.int .i64 v3), .d (.int .i64 v4), .d (.sl (List.map TRange.D v5)), .d (.sl (List.map TRange.D v6)), .d (.sl (List.map iD v7)), .d (.sl (List.map Form.D v8)), .d (.int .i64 v9)]))]⟩ (by simp [c4663, g4734, g4735, g4736, c4738, c4831, c4937, c6243, c7900, c8561] <;> omega) (by simp [c4663, g4734, g4735, g4736, c4738, c4831, c4937, c6243, c7900, c8561] <;> omega) ?_
      refine Walk.iter (σ := Int) (fun g => ⟨[(1, .d (.sl (List.map TItem.D v10))), (2, .d (.sl (List.map iD v11))), (3, .box 3 0), (17, .d (.int .i64 v1484)), (18, .d (.int .i64 v1751)), (19, .d (.int .i64 v1752)), (20, .d (.int .i64 g))], [(3, some (.box [.d (.int .i64 v1), .d (.int .i64 v2), .d (.int .i64 v3), .d (.int .i64 v4), .d (.sl (List.map TRange.D v5)), .d (.sl (List.map TRange.D v6)), .d (.sl (List.map iD v7)), .d (.sl (List.map Form.D v8)), .d (.int .i64 v9)]))]⟩) (fun g : Int => law08_wanted_l8 v8 v1484 v11 v1752 v10 v1751 g) _ (fun v1774 y8640 hx ih8610 hr8611 => ?_) 0 hx
      unfold law08_wanted_l8 at hx
      try dsimp only at hx ⊢
      refine Walk.seq (Walk.seq (Walk.region' rfl fun K hK => ?_))
      obtain ⟨v1781, r8617, a8618, b8619, c8620, hx⟩ := rd_elim hx
      simp only [go_sem, seval, c4663, g4734, g4735, g4736, c4738, c4831, c4937, c6243, c7900, c8561, a8618, b8619, c8620]
      repeat refine And.intro (by first | omega | (simp; done) | (simp; omega)) ?_
      refine hK _ ?_
      clear hK K
      refine Walk.condO rfl hx (fun c8622 hx => ?_) (fun c8622 hx => ?_)
      · refine Walk.skip (Walk.seq (Walk.block (Walk.seq (Walk.region' rfl fun K hK => ?_))))
        obtain ⟨v1782, r8623, a8624, b8625, c8626, hx⟩ := rd_elim hx
        obtain ⟨v1783, r8627, a8628, b8629, c8630, hx⟩ := rd_elim hx
        simp only [go_sem, seval, c4663, g4734, g4735, g4736, c4738, c4831, c4937, c6243, c7900, c8561, a8618, b8619, c8620, c8622, a8624, b8625, c8626, a8628, b8629, c8630]
        repeat refine And.intro (by first | omega | (simp; done) | (simp; omega)) ?_
        refine hK _ ?_
        clear hK K
        refine Walk.seq (Walk.drawn' rfl mixed fun K hK => ?_)
        obtain ⟨v1784, r8631, a8632, b8633, c8634, hx⟩ := rd_elim hx
        simp only [go_sem, seval, c4663, g4734, g4735, g4736, c4738, c4831, c4937, c6243, c7900, c8561, a8618, b8619, c8620, c8622, a8624, b8625, c8626, a8628, b8629, c8630, a8632, b8633, c8634]
        repeat refine And.intro (by first | omega | (simp; done) | (simp; omega)) ?_
        refine hK _ _ (by kernel_rfl) (by simp [c4663, g4734, g4735, g4736, c4738, c4831, c4937, c6243, c7900, c8561, a8618, b8619, c8620, c8622, a8624, b8625, c8626, a8628, b8629, c8630, a8632, b8633, c8634]) ?_
        clear hK K
        refine Walk.condO rfl hx (fun c8635 hx => ?_) (fun c8635 hx => ?_)
        · refine Walk.seq (Walk.region' rfl fun K hK => ?_)
          simp only [go_sem, seval, c4663, g4734, g4735, g4736, c4738, c4831, c4937, c6243, c7900, c8561, a8618, b8619, c8620, c8622, a8624, b8625, c8626, a8628, b8629, c8630, a8632, b8633, c8634, c8635]
          refine hK _ ?_
          clear hK K
          refine Walk.exit rfl ?_
          obtain ⟨z8636, e8637, hx⟩ := exit_elim hx
          rw [hr8611 z8636 e8637] at hx
          refine Walk.inBlock (Walk.region' rfl fun K hK => ?_)
          simp only [go_sem, seval, c4663, g4734, g4735, g4736, c4738, c4831, c4937, c6243, c7900, c8561, a8618, b8619, c8620, c8622, a8624, b8625, c8626, a8628, b8629, c8630, a8632, b8633, c8634, c8635]
          refine hK _ ?_
          clear hK K
          exact Walk.weaken _ (by simp [c4663, g4734, g4735, g4736, c4738, c4831, c4937, c6243, c7900, c8561, a8618, b8619, c8620, c8622, a8624, b8625, c8626, a8628, b8629, c8630, a8632, b8633, c8634, c8635] <;> omega) (by simp [c4663, g4734, g4735, g4736, c4738, c4831, c4937, c6243, c7900, c8561, a8618, b8619, c8620, c8622, a8624, b8625, c8626, a8628, b8629, c8630, a8632, b8633, c8634, c8635] <;> omega) (ih8557 _ (cont_elim hx))
        refine Walk.skip (Walk.inBlock (Walk.region' rfl fun K hK => ?_))
        simp only [go_sem, seval, c4663, g4734, g4735, g4736, c4738, c4831, c4937, c6243, c7900, c8561, a8618, b8619, c8620, c8622, a8624, b8625, c8626, a8628, b8629, c8630, a8632, b8633, c8634, c8635]
        refine hK _ ?_
        clear hK K
        exact Walk.weaken _ (by simp [c4663, g4734, g4735, g4736, c4738, c4831, c4937, c6243, c7900, c8561, a8618, b8619, c8620, c8622, a8624, b8625, c8626, a8628, b8629, c8630, a8632, b8633, c8634, c8635] <;> omega) (by simp [c4663, g4734, g4735, g4736, c4738, c4831, c4937, c6243, c7900, c8561, a8618, b8619, c8620, c8622, a8624, b8625, c8626, a8628, b8629, c8630, a8632, b8633, c8634, c8635] <;> omega) (ih8610 _ (cont_elim hx))
      refine Walk.exit rfl ?_
      obtain ⟨z8638, e8639, hx⟩ := exit_elim hx
      rw [hr8611 z8638 e8639] at hx
      refine Walk.inBlock (Walk.region' rfl fun K hK => ?_)
      simp only [go_sem, seval, c4663, g4734, g4735, g4736, c4738, c4831, c4937, c6243, c7900, c8561, a8618, b8619, c8620, c8622]
      refine hK _ ?_
      clear hK K
      exact Walk.weaken _ (by simp [c4663, g4734, g4735, g4736, c4738, c4831, c4937, c6243, c7900, c8561, a8618, b8619, c8620, c8622] <;> omega) (by simp [c4663, g4734, g4735, g4736, c4738, c4831, c4937, c6243, c7900, c8561, a8618, b8619, c8620, c8622] <;> omega) (ih8557 _ (cont_elim hx))
    refine Walk.exit rfl ?_
    obtain ⟨z8641, e8642, hx⟩ := exit_elim hx
    rw [hr8558 z8641 e8642] at hx
    refine Walk.seq (Walk.region' rfl fun K hK => ?_)
    simp only [go_sem, seval, c4663, g4734, g4735, g4736, c4738, c4831, c4937, c6243, c7900, c8561]
    refine hK _ ?_
    clear hK K
    refine Walk.condO rfl hx (fun c8643 hx => ?_) (fun c8643 hx => ?_)
    · refine Walk.seq (Walk.region' rfl fun K hK => ?_)
      simp only [go_sem, seval, c4663, g4734, g4735, g4736, c4738, c4831, c4937, c6243, c7900, c8561, c8643]
      refine hK _ ?_
      clear hK K
      obtain ⟨z8644, e8645, hx⟩ := exit_elim hx
      rw [hr7897 z8644 e8645] at hx
      obtain rfl := Option.some.inj hx
      exact Walk.ret ⟨by simp [c4663, g4734, g4735, g4736, c4738, c4831, c4937, c6243, c7900, c8561, c8643], by simp [c4663, g4734, g4735, g4736, c4738, c4831, c4937, c6243, c7900, c8561, c8643]⟩
    refine Walk.skip (Walk.inBlock (Walk.region' rfl fun K hK => ?_))
    simp only [go_sem, seval, c4663, g4734, g4735, g4736, c4738, c4831, c4937, c6243, c7900, c8561, c8643]
    refine hK _ ?_
    clear hK K
    exact Walk.weaken _ (by simp [c4663, g4734, g4735, g4736, c4738, c4831, c4937, c6243, c7900, c8561, c8643] <;> omega) (by simp [c4663, g4734, g4735, g4736, c4738, c4831, c4937, c6243, c7900, c8561, c8643] <;> omega) (ih7896 _ (cont_elim hx))
  refine Walk.exit rfl ?_
  obtain ⟨z8647, e8648, hx⟩ := exit_elim hx
  rw [hr7897 z8647 e8648] at hx
  refine Walk.seq (Walk.region' rfl fun K hK => ?_)
  simp only [go_sem, seval, c4663, g4734, g4735, g4736, c4738, c4831, c4937, c6243, c7900]
  refine hK _ ?_
  clear hK K
  obtain rfl := Option.some.inj hx
  exact Walk.ret ⟨by simp [c4663, g4734, g4735, g4736, c4738, c4831, c4937, c6243, c7900], by simp [c4663, g4734, g4735, g4736, c4738, c4831, c4937, c6243, c7900]⟩
end Go.AX

